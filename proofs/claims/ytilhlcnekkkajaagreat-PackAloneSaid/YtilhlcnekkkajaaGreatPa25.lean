/- Contracts: dropping from a graph. Plain: what the walks of trimming lean on. Plain: transactions in place of others. Plain: rates are compared by products. Contracts: has a graph just some entries? Contracts: what hangs on an entry, by the reference. -/
import Derived.Test.YtilhlcnekkkajaaGreatPa24
set_option linter.unusedVariables false
set_option linter.unusedSimpArgs false
section
namespace Go.Proofs.YtilhlcnekkkajaaGreat
open Go Go.K
attribute [local irreducible] regK codeK retK KOp.wp K.Spec u32 leS vnS str zero32 sha2 encT idT sizeT checkT grantB idN stepR workL reachE findI

theorem drop1_hb : hasBody Tryz.prog F.graph_Graph_Drop_1 = true := by kernel_rfl
theorem drop1_spec {b3 : Nat} {t : TypeId} {id : ByteArray} (s : ByteArray) (w : World) (h3 : At w b3 (.cells [.string id].toArray t (0, 0))) : K.Spec Tryz.prog F.graph_Graph_Drop_1 [.string s, .pointer (some ⟨b3, 0, none⟩)] w fun r w' => r = .bool (decide (s = id)) ∧ w' = w := by
  have r3 : Row w ⟨b3, 0, none⟩ [.string id] := Row.of_at h3
  refine s_graph_Graph_Drop_1 rfl ?_
  unfold k_graph_Graph_Drop_1
  refine oy ?_
  repeat' (first|(first|refine go1 ?_|refine zg (fun _ _=>?_)|refine zi (fun _ _=>?_)))
  exact x_ret rfl ⟨rfl, rfl⟩
set_option maxHeartbeats 2000000 in
theorem gdrop_own {B g : Nat} {M : List Nat} {l : List Ent} (id : ByteArray) (w : World) (hG : Gr w B g M l) (hn : l.length ≤ 1000) : K.Spec Tryz.prog F.graph_Graph_Drop [.pointer (some ⟨g, 0, none⟩), .string id] w fun r w' =>
    ∃ M', r = .int .i64 (dropG l id).2 ∧ Gr w' B g M' (dropG l id).1 ∧ Chg M w w' ∧ (∀ b ∈ M', b ∈ M ∨ w.heap.size ≤ b) ∧ ((dropG l id).2 ≠ 0 → Ext w w') := by
  have hG0 := hG
  obtain ⟨b1, vo, b2, m, sp, hP, rfl⟩ := hG
  have rg : Row w ⟨g, 0, none⟩ [.map (some b1), vo, .map (some b2)] := Row.of_at hP.at_
  have hq1 := hP.ents
  have hl1 := Gr.lt hG0
  refine s_graph_Graph_Drop rfl ?_
  unfold k_graph_Graph_Drop
  refine oy ?_
  repeat' (first|(first|refine go1 ?_|refine zg (fun _ _=>?_)|refine zi (fun _ _=>?_))|(refine zM rfl (fun h => ?_) (fun h => ?_))|(refine zD rfl rfl (fun b3 wp xp a3 (r3 : Row wp ⟨b3, 0, none⟩ [.string id]) hp0=>?_))|(refine st_lookupR (d := some 17) (KE := sK) (F := entR) (M := mutG g b1 b2 vo) (k := id) rfl rfl (by exact fx) rfl rfl (fun y cs hy hr => ?_) (fun hno => ?_))|(refine zH (d := some 5) (fun b9 w9 x9 a9 hb9 => ?_); have s9 : w.heap.size ≤ b9 := Nat.le_trans (Ext.size (w := w) (by exact fx)) hb9; have s39 : wp.heap.size ≤ b9 := Nat.le_trans (Ext.size (w := wp) (by exact fx)) hb9)|(obtain ⟨iv, ov, rfl, q1, q2, q3⟩ := hr; have i1 := q1.one; have i2 := q2.one; refine st_setN (w0 := w) (vs := entCs y iv ov) (by exact fx) s9 (by focus (repeat (first | assumption | (apply At.ext; assumption)))) rfl rfl rfl rfl (by simp [entCs, i1, i2]; exact ⟨rfl, rfl, rfl, rfl, rfl⟩) (fun w10 x10 c10 a10 r10 => ?_); have l3 := a3.lt; have a30 : At w10 b3 (.cells [.string id].toArray T.string (0, 0)) := At.chg c10 (At.ext (show Ext wp w9 by exact fx) a3) (by simp; omega); have r30 : Row w10 ⟨b3, 0, none⟩ [.string id] := Row.of_at a30; have q10 : SlR inR (mutG g b1 b2 vo) w10 iv y.tx.ins := (q1.step (M' := b9 :: mutG g b1 b2 vo) x9 (by simp) (fun b hb => by rcases List.mem_cons.1 hb with h | h; (subst h; exact .inr hb9); exact .inl h)).step c10 (by intro q hq; simp at hq; subst hq; exact .inl (by simp)) (fun _ h => .inl (by simp [h])); clear c10 q1 q2 a9 x9 hb9 s39 xp a3 r3)|(refine st_setN (w0 := w) (vs := zEnt) (by exact fx) s9 (by focus (repeat (first | assumption | (apply At.ext; assumption)))) rfl rfl rfl rfl rfl (fun w10 x10 c10 a10 r10 => ?_)))
  · clear ‹Ext wp _›
    rename_i wB xB
    have xwB : Ext w wB := x10.trans xB
    have a3B := a30.ext xB
    have a9B := a10.ext xB
    have agB := hP.at_.ext xwB
    have mB := hq1.ext xwB
    have pB := hP.pts.ext xwB
    have oB := hP.ord.ext xwB
    have qB := q10.ext xB
    have sB := xwB.size
    have nd := hP.nd
    simp only [List.nodup_cons, List.mem_cons, not_or] at nd
    obtain ⟨⟨n1, n2, n3⟩, ⟨n4, n5⟩, n6, n7⟩ := nd
    have l1 : b1 < w.heap.size := hl1 _ (by simp)
    have l2 : b2 < w.heap.size := hl1 _ (by simp)
    have lg : g < w.heap.size := hl1 _ (by simp)
    have lo : ∀ b ∈ blkOf vo, b < w.heap.size := fun b hb => hl1 b (by simp [hb])
    have hym : y ∈ l ∧ y.id = id := by
      rw [hP.inv.ent] at hy
      exact ⟨List.mem_of_find?_eq_some hy, by have := List.find?_some hy; exact of_decide_eq_true this⟩
    have hins := (chk_sm (hG0.ok y hym.1).check).ins
    clear xB x10 a30 a10 r10 r30 q10 rg
    refine st_deleteR (KE := sK) (F := entR) (M := mutG g b1 b2 vo) (k := id) rfl rfl mB (by simp) rfl rfl (fun w11 c11 m11 => ?_)
    have ag11 := agB.chg c11 (by simp; omega)
    have a311 := a3B.chg c11 (by simp; omega)
    have a911 := a9B.chg c11 (by simp; omega)
    have p11 := pB.chg c11 (by simp; omega)
    have o11 := oB.chg c11 (fun b hb h => by simp at h; subst h; exact n5 hb)
    have q11 := qB.step (M' := mutG g b1 b2 vo) c11 (fun b hb => by simp at hb; subst hb; exact .inl (by simp)) (fun _ h => .inl h)
    have r911 : Row w11 ⟨b9, 0, none⟩ (entCs y iv ov) := Row.of_at a911
    have C11 : Chg (mutG g b1 b2 vo) w w11 := (xwB.chg c11).mono (fun b hb => by simp at hb; subst hb; exact .inl (by simp))
    have sB11 : w.heap.size ≤ w11.heap.size := Nat.le_trans sB c11.size
    clear agB a3B a9B pB oB mB qB c11 xwB
    repeat' (first|(first|refine go1 ?_|refine zg (fun _ _=>?_)|refine zi (fun _ _=>?_))|(refine zL rfl (fun h => ?_) (fun h => ?_))|(refine zG (E := inR) (M := mutG g b1 b2 vo) (l := y.tx.ins) rfl (SlR.ext q11 (by exact fx)) ?_)|(refine c_loopV (fun (i : Nat) w' => Chg [b2] w11 w' ∧ i ≤ y.tx.ins.length ∧ MapE ptK Value.string w' b2 (delPts sp (y.tx.ins.take i))) (fun i => [(0, .pointer (some ⟨g, 0, none⟩)), (3, .pointer (some ⟨b3, 0, none⟩)), (29, iv), (30, .int .i64 (y.tx.ins.length : Nat)), (31, .int .i64 i)]) (fun i => y.tx.ins.length - i) 0 ⟨rfl, rfl, rfl, rfl, rfl, trivial⟩ ⟨(show Ext w11 _ by exact fx).mono (by simp), by simp, MapE.ext (by exact fx) p11⟩ ?_; rintro i ρ w3 ⟨x3, hi, hmp⟩))
    · have hi3 : SlR inR (mutG g b1 b2 vo) w3 iv y.tx.ins := q11.step x3 (fun b hb => .inl (by simp at hb; simp [hb])) (fun _ h => .inl h)
      have rg3 : Row w3 ⟨g, 0, none⟩ [.map (some b1), vo, .map (some b2)] := Row.of_at (ag11.chg x3 (by simp; omega))
      clear r911
      repeat' (first|(first|refine go1 ?_|refine zg (fun _ _=>?_)|refine zi (fun _ _=>?_))|(refine st_elemR (d := some 33) (E := inR) (M := mutG g b1 b2 vo) rfl rfl (n := i) (l := y.tx.ins) (SlR.ext hi3 (by exact fx)) rfl (by omega) (fun ad cs r4 he => ?_); obtain ⟨wv, rfl, hw, hp5, hp6⟩ := he; obtain ⟨bs1, cp1, rfl⟩ := hw.form; have hil : i < y.tx.ins.length := (by omega))|(refine zE (d' := 8) (fun _=>rfl) rfl rfl rfl (fun b8 w8 x8 a8 (r8 : Row w8 ⟨b8, 0, none⟩ (inCs y.tx.ins[i] (.slice bs1 y.tx.ins[i].wit.length cp1))) hb8=>?_))|(refine st_delete (E := ptK) (fv := Value.string) (k := y.tx.ins[i].p) rfl rfl (MapE.ext (w := w3) (by exact fx) hmp) rfl rfl (fun w5 c5 m5 => ?_); have x35 : Chg [b2] w3 w5 := Ext.chg (by exact fx) c5))
      exact ⟨i + 1, ⟨rfl, rfl, rfl, rfl, rfl, trivial⟩, ⟨(x3.trans x35).mono (by simp), by omega, by rw [delPts_take hil]; exact m5⟩, by omega⟩
    · have ei : i = y.tx.ins.length := by omega
      subst ei
      rw [List.take_of_length_le (Nat.le_refl _)] at hmp
      have ag3 := ag11.chg x3 (by simp; omega)
      have rg3 : Row w3 ⟨g, 0, none⟩ [.map (some b1), vo, .map (some b2)] := Row.of_at ag3
      have a33 := a311.chg x3 (by simp; omega)
      have o3 := o11.chg x3 (fun b hb h => by simp at h; subst h; exact n6 hb)
      have m3 := m11.step (M' := mutG g b1 b2 vo) x3 (by simp; omega) (fun b hb => .inl (by simp at hb; simp [hb])) (fun _ h => .inl h)
      have C3 : Chg (mutG g b1 b2 vo) w w3 := (C11.trans x3).mono (fun b hb => by simp at hb ⊢; grind)
      have s3 := x3.size
      clear q11 r911 ag11 a311 a911 p11 o11 m11 C11
      repeat' (first|(first|refine go1 ?_|refine zg (fun _ _=>?_)|refine zi (fun _ _=>?_))|(refine zC rfl (del_spec (g := F.graph_Graph_Drop_1) (capl := [.pointer (some ⟨b3, 0, none⟩)]) (l := l.map (fun x : Ent => x.id)) (B := B) _ (fun s => decide (s = id)) drop1_hb (Own.ext (w := w3) (by exact fx) o3) (by simp; omega) (fun W s hW => drop1_spec s W (At.chg hW (At.ext (w := w3) (by exact fx) a33) (fun h => by have := lo _ h; omega)))) ?_; rintro v6 w6 ⟨o6, c6, hb6⟩; have c36 : Chg (blkOf vo) w3 w6 := Ext.chg (by exact fx) c6; have hv1 : v6.oneCell' = true := (by obtain ⟨_, _, e⟩ := o6.sl.form; rw [e]; rfl)))
      refine st_store (b := g) (o := 1) (v := v6) rfl rfl hv1 (ag3.chg c36 n3) (by simp) (fun w14 c14 ag14 => ?_)
      have ag14 : At w14 g (.cells [.map (some b1), v6, .map (some b2)].toArray T.graph_Graph (0, 0)) := ag14
      repeat (first|refine go1 ?_|refine zg (fun _ _=>?_)|refine zi (fun _ _=>?_))
      have nb2 : b2 ∉ blkOf v6 := fun h => n6 (hb6 _ h)
      have nb1 : b1 ∉ blkOf v6 := fun h => n5 (hb6 _ h)
      have nbg : g ∉ blkOf v6 := fun h => n3 (hb6 _ h)
      have hM' : ∀ b ∈ mutG g b1 b2 v6, b ∈ mutG g b1 b2 vo := fun b hb => by
        simp only [List.mem_cons] at hb ⊢
        rcases hb with rfl | rfl | rfl | hb
        · exact .inl rfl
        · exact .inr (.inl rfl)
        · exact .inr (.inr (.inl rfl))
        · exact .inr (.inr (.inr (hb6 b hb)))
      have m6 := m3.step (M' := mutG g b1 b2 v6) c36 n5 (fun b hb => .inl (by simp [hb])) (fun b hb => .inl (hM' b hb))
      have m14 := m6.step (M' := mutG g b1 b2 v6) c14 (by simp; omega) (fun b hb => by simp at hb; subst hb; exact .inl (by simp)) (fun _ h => .inl h)
      have p14 := (hmp.chg c36 n6).chg c14 (by simp; omega)
      have hC : Chg (mutG g b1 b2 vo) w w14 := ((C3.trans c36).trans c14).mono (fun b hb => by simp at hb ⊢; grind)
      obtain ⟨hym, rfl⟩ := hym
      obtain ⟨n, hnl, rfl⟩ := List.getElem_of_mem hym
      have hfi : findI l l[n].id = n := by
        unfold findI
        exact idxOf_hit hnl (decide_eq_true rfl) (fun j hj => decide_eq_false fun e => by
          have := entD_inj hG0.nodup (show j < l.length by omega) hnl (by rw [entD_get (by omega), entD_get hnl]; exact e)
          omega)
      have ed : dropG l l[n].id = (l.filter fun z => !decide (z.id = l[n].id), 0) := by
        rw [dropG, if_neg (by rw [hfi]; omega), hfi, Int.toNat_natCast, erase_filter hG0.nodup hnl rfl]
      rw [ed]
      have e6 : (l.map (·.id)).filter (fun s => !decide (s = l[n].id)) = (l.filter fun z => !decide (z.id = l[n].id)).map (·.id) := by
        rw [List.filter_map]; rfl
      rw [e6] at o6
      refine x_ret rfl ⟨_, rfl, ⟨b1, v6, b2, _, _, ⟨ag14, m14, p14, ?_, hP.inv.del hym, ?_, hP.lo⟩, rfl⟩, hC, fun b hb => .inl (hM' b hb), fun h => absurd rfl h⟩
      · exact o6.chg c14 (fun b hb h => by simp at h; subst h; exact nbg hb)
      · simp only [List.nodup_cons, List.mem_cons, not_or]
        exact ⟨⟨n1, n2, nbg⟩, ⟨n4, nb1⟩, nb2, blkOf_nodup v6⟩
  · have hf : findI l id < 0 := by
      rw [hP.inv.ent] at hno
      rcases Int.lt_or_le (findI l id) 0 with h1 | h1
      · exact h1
      · have h2 := idxOf_any (p := fun x : Ent => decide (x.id = id)) (l := l)
        have h3 : l.any (fun x => decide (x.id = id)) = true := by rw [← h2]; unfold findI at h1; exact decide_eq_true h1
        obtain ⟨z, hz, h4⟩ := List.any_eq_true.1 h3
        exact absurd h4 (List.find?_eq_none.1 hno z hz)
    rw [dropG, if_pos hf]
    exact x_ret rfl ⟨_, rfl, hG0.ext x10, x10.mono (by simp), fun b hb => .inl hb, fun _ => x10⟩
theorem gdrop_spec {B g : Nat} {M : List Nat} {l : List Ent} (id : ByteArray) (w : World) (hG : Gr w B g M l) (hn : l.length ≤ 1000) : K.Spec Tryz.prog F.graph_Graph_Drop [.pointer (some ⟨g, 0, none⟩), .string id] w fun r w' =>
    ∃ M', r = .int .i64 (dropG l id).2 ∧ Gr w' B g M' (dropG l id).1 ∧ Chg M w w' ∧ ∀ b ∈ M', b ∈ M ∨ w.heap.size ≤ b := 
  spec_mono (gdrop_own id w hG hn) fun _ _ ⟨M', h1, h2, h3, h4, _⟩ => ⟨M', h1, h2, h3, h4⟩
end Go.Proofs.YtilhlcnekkkajaaGreat
end
section
namespace Go.K
open Go Go.Proofs.YtilhlcnekkkajaaGreat
theorem feeD_once {l : List Ent} (h : (l.map (·.id)).Nodup) (m : List Bool) : feeD l (idsOf l m) = feeOf l m := by
  unfold feeD
  rw [dist_nodup ((idsOf_sub l m).nodup h)]
  exact (sums_mask h m).1
/-- The score of what bears an id. -/
def scoreP (l : List Ent) (id : ByteArray) : Int × Int := if hasE l id = true then scoreL l (getE l id) else (0, 0)
theorem has_mem {l : List Ent} {id : ByteArray} (h : hasE l id = true) : getE l id ∈ l ∧ (getE l id).id = id := by
  unfold hasE at h
  rw [← find_any, Option.isSome_iff_exists] at h
  obtain ⟨y, hy⟩ := h
  have h1 := List.mem_of_find?_eq_some hy
  have h2 := List.find?_some hy
  unfold getE
  rw [hy]
  exact ⟨h1, by simpa using h2⟩
theorem get_mem {l : List Ent} (hn : (l.map (·.id)).Nodup) {x : Ent} (hx : x ∈ l) : hasE l x.id = true ∧ getE l x.id = x := by
  obtain ⟨i, hi, rfl⟩ := List.getElem_of_mem hx
  have h := getE_get hn hi
  unfold hasE getE
  rw [← find_any, h]
  exact ⟨rfl, rfl⟩
/-! The worst so far, as the program keeps it. -/
def wS (l : List Ent) (i : Nat) : ByteArray := if i = 0 then ⟨#[]⟩ else (entD l (worstI l i).toNat).id
def wP (l : List Ent) (i : Nat) : Int × Int := if i = 0 then (0, 0) else scoreL l (entD l (worstI l i).toNat)
theorem dropAll_len {l : List Ent} {ids : List ByteArray} : (dropAll l ids).length ≤ l.length := by
  unfold dropAll
  induction ids generalizing l with
  | nil => exact Nat.le_refl _
  | cons s ids ih =>
    rw [List.foldl_cons]
    refine Nat.le_trans ih ?_
    unfold dropG
    split
    · exact Nat.le_refl _
    · rw [List.length_eraseIdx]; split <;> omega
/-- What stays of the first entries. -/
def stayL (a l : List Ent) : List Ent := l.filter fun x => hasE a x.id
/-! Sizes of what was checked. -/
theorem Tx.Sz.sizeM {t : Tx} (h : t.Sz) : 1 ≤ sizeT t ∧ sizeT t ≤ 1000000 := by
  have a1 := h.e3 false
  have a2 := h.e3 true
  have a3 := h.witC t.ins.length
  rw [List.take_length] at a3
  have e1 : (encT false t).size = (enc3 false t).size + 4 := by
    unfold encT enc4
    simp only [Bool.false_eq_true, if_false, ByteArray.size_append, leS_size]
    have h0 : (⟨#[]⟩ : ByteArray).size = 0 := rfl
    omega
  have e2 : (encT true t).size = (enc3 true t).size + (catB encWit t.ins).size + 4 := by
    unfold encT enc4
    simp only [if_true, ByteArray.size_append, leS_size]
  unfold sizeT weightT
  cases witB t
  · rw [e1]; omega
  · rw [e1, e2]; omega
end Go.K
end
section
namespace Go.K
open Go Go.Proofs.YtilhlcnekkkajaaGreat
/-- Does an entry spend what a transaction spends? -/
def hitE (t : Tx) (x : Ent) : Bool := x.tx.ins.any fun a => t.ins.any fun b => decide (a.p = b.p)
def confL (l : List Ent) (t : Tx) : List Bool := l.map (hitE t)
def orB (a b : List Bool) : List Bool := List.zipWith (· || ·) a b
def evI (l : List Ent) (t : Tx) : Nat → List Bool
  | 0 => List.replicate l.length false
  | i + 1 => if hitE t (entD l i) = true then orB (evI l t i) (belowL l (entD l i).id) else evI l t i
def evL (l : List Ent) (t : Tx) : List Bool := evI l t l.length
def orTo (a b : List Bool) (k : Nat) : List Bool := (orB a b).take k ++ a.drop k
def sigT (t : Tx) : Bool := t.ins.any fun x => decide (x.q < 4294967294)
def mayE (l : List Ent) (x : Ent) : Bool := sigT x.tx || (idsOf l (aboveL l x.tx)).any fun s => sigT (getE l s).tx
/-- Does it spend what it may not? -/
def freshP (l : List Ent) (t : Tx) : Bool := t.ins.any fun b => outHas l b.p && (inB (idsOf l (evL l t)) b.p.s || !inB (idsOf l (confL l t)) (spId l b.p))
/-- The least fee behind some entries, at a size. -/
def needI (l : List Ent) (S n : Int) (ids : List ByteArray) : Int := ids.foldl (fun a s => max a ((getE l s).fee * S / (getE l s).size + 1)) n
def goneF (l : List Ent) (t : Tx) : Int := feeOf l (evL l t)
def needL (l : List Ent) (t : Tx) : Int := needI l (sizeT t : Nat) (goneF l t + (sizeT t : Nat)) (idsOf l (confL l t))
def enoughL (l : List Ent) (t : Tx) (fee : Int) : Bool := l.all (fun x => !hitE t x || decide (cmpR fee (sizeT t : Nat) x.fee x.size > 0)) && (!l.any (hitE t) || decide (goneF l t + (sizeT t : Nat) ≤ fee))
def rulesL (l : List Ent) (t : Tx) (fee : Int) : Int :=
  if checkT t ≠ 0 then checkT t
  else if goodB fee = false then 3
  else if l.any (fun x => hitE t x && !mayE l x) = true then 15
  else if l.any (hitE t) = false then 0
  else if (idsOf l (evL l t)).length > 100 then 15
  else if freshP l t = true then 15
  else if enoughL l t fee = true then 0 else 11
theorem confL_len {l : List Ent} {t : Tx} : l.length = (confL l t).length := by simp [confL]
theorem orB_len {a b : List Bool} (h : a.length = b.length) : (orB a b).length = a.length := by simp [orB, h]
theorem evI_len {l : List Ent} {t : Tx} : ∀ i, (evI l t i).length = l.length
  | 0 => by simp [evI]
  | i + 1 => by
    rw [evI]
    split
    · rw [orB_len (by rw [evI_len i]; exact belowL_len _ _), evI_len i]
    · exact evI_len i
theorem evL_len {l : List Ent} {t : Tx} : l.length = (evL l t).length := (evI_len _).symm
theorem orB_iff {a b : List Bool} {k : Nat} (h : a.length = b.length) : (orB a b)[k]? = some true ↔ a[k]? = some true ∨ b[k]? = some true := by
  unfold orB
  rw [List.getElem?_zipWith]
  by_cases hk : k < a.length
  · rw [List.getElem?_eq_getElem hk, List.getElem?_eq_getElem (by omega : k < b.length)]
    simp
  · rw [List.getElem?_eq_none (by omega), List.getElem?_eq_none (by omega)]; simp
theorem belowL_at {l : List Ent} {s : ByteArray} {k : Nat} (hk : k < l.length) : (belowL l s)[k]? = some true ↔ belowS l s k = true := by
  have e : (belowL l s)[k]? = some (belowS l s k) := by
    unfold belowL reachL
    rw [List.getElem?_map, List.getElem?_range hk]; rfl
  rw [e]; simp
theorem evI_iff {l : List Ent} {t : Tx} {k : Nat} (hk : k < l.length) : ∀ {i : Nat}, i ≤ l.length → ((evI l t i)[k]? = some true ↔ ∃ j, ∃ h : j < l.length, j < i ∧ hitE t l[j] = true ∧ belowS l l[j].id k = true)
  | 0, _ => by
    rw [evI, List.getElem?_replicate]
    simp
  | i + 1, hi => by
    have ih := evI_iff (t := t) hk (show i ≤ l.length by omega)
    have hil : i < l.length := by omega
    rw [evI, entD_get hil]
    by_cases h : hitE t l[i] = true
    · rw [if_pos h, orB_iff (by rw [evI_len]; exact belowL_len _ _), ih, belowL_at hk]
      constructor
      · rintro (⟨j, h1, h2, h3, h4⟩ | h2)
        · exact ⟨j, h1, by omega, h3, h4⟩
        · exact ⟨i, hil, by omega, h, h2⟩
      · rintro ⟨j, h1, h2, h3, h4⟩
        by_cases e : j = i
        · subst e; exact .inr h4
        · exact .inl ⟨j, h1, by omega, h3, h4⟩
    · rw [if_neg h, ih]
      constructor
      · rintro ⟨j, h1, h2, h3, h4⟩
        exact ⟨j, h1, by omega, h3, h4⟩
      · rintro ⟨j, h1, h2, h3, h4⟩
        by_cases e : j = i
        · subst e; exact absurd h3 h
        · exact ⟨j, h1, by omega, h3, h4⟩
section
variable {l : List Ent} {t : Tx}
theorem mem_conf {s : ByteArray} : s ∈ idsOf l (confL l t) ↔ ∃ x ∈ l, hitE t x = true ∧ x.id = s := by
  rw [mem_mask]
  constructor
  · rintro ⟨i, hi, h1, h2⟩
    refine ⟨l[i], List.getElem_mem hi, ?_, h2⟩
    unfold confL at h1
    rw [List.getElem?_map, List.getElem?_eq_getElem hi] at h1
    simpa using h1
  · rintro ⟨x, hx, h1, h2⟩
    obtain ⟨i, hi, rfl⟩ := List.getElem_of_mem hx
    refine ⟨i, hi, ?_, h2⟩
    unfold confL
    rw [List.getElem?_map, List.getElem?_eq_getElem hi]
    simpa using h1
theorem mem_below (hn : (l.map (·.id)).Nodup) {s : ByteArray} {k : Nat} (hk : k < l.length) : l[k].id ∈ idsOf l (belowL l s) ↔ belowS l s k = true := mem_reach hn hk
theorem mem_ev (hn : (l.map (·.id)).Nodup) {s : ByteArray} : s ∈ idsOf l (evL l t) ↔ ∃ x ∈ l, hitE t x = true ∧ s ∈ idsOf l (belowL l x.id) := by
  rw [mem_mask]
  constructor
  · rintro ⟨k, hk, h1, rfl⟩
    obtain ⟨j, h2, _, h3, h4⟩ := (evI_iff hk (Nat.le_refl _)).1 h1
    exact ⟨l[j], List.getElem_mem h2, h3, (mem_below hn hk).2 h4⟩
  · rintro ⟨x, hx, h1, h2⟩
    obtain ⟨j, hj, rfl⟩ := List.getElem_of_mem hx
    obtain ⟨k, hk, _, rfl⟩ := mem_mask.1 h2
    exact ⟨k, hk, (evI_iff hk (Nat.le_refl _)).2 ⟨j, hj, hj, h1, (mem_below hn hk).1 h2⟩, rfl⟩
theorem conf_ev (hn : (l.map (·.id)).Nodup) {x : Ent} (hx : x ∈ l) (h : hitE t x = true) : x.id ∈ idsOf l (evL l t) := by
  obtain ⟨i, hi, rfl⟩ := List.getElem_of_mem hx
  exact (mem_ev hn).2 ⟨l[i], hx, h, inS_iff.1 (both_self hn hi)⟩
theorem conf_none (h : l.any (hitE t) = false) : idsOf l (confL l t) = [] := by
  rw [List.any_eq_false] at h
  refine ids_no fun b hb => ?_
  unfold confL at hb
  obtain ⟨x, hx, rfl⟩ := List.mem_map.1 hb
  simpa using h x hx
theorem conf_len0 : (idsOf l (confL l t)).length = 0 ↔ l.any (hitE t) = false := by
  constructor
  · intro h
    rw [List.any_eq_false]
    intro x hx hh
    have := mem_conf.2 ⟨x, hx, hh, rfl⟩
    have := List.length_pos_of_mem this
    omega
  · intro h; rw [conf_none h]; rfl
theorem ev_none (hn : (l.map (·.id)).Nodup) (h : l.any (hitE t) = false) : idsOf l (evL l t) = [] := by
  rw [List.eq_nil_iff_forall_not_mem]
  intro s hs
  obtain ⟨x, hx, h1, _⟩ := (mem_ev hn).1 hs
  rw [List.any_eq_false] at h
  exact h x hx h1
/-- What goes is closed: what hangs on it goes. -/
theorem ev_closed (hn : (l.map (·.id)).Nodup) {i j : Nat} (hi : i < l.length) (hj : j < l.length) (hp : Path l i j) (h : l[j].id ∈ idsOf l (evL l t)) : l[i].id ∈ idsOf l (evL l t) := by
  obtain ⟨x, hx, h1, h2⟩ := (mem_ev hn).1 h
  obtain ⟨k, hk, rfl⟩ := List.getElem_of_mem hx
  refine (mem_ev hn).2 ⟨l[k], hx, h1, (mem_below hn hi).2 ?_⟩
  rw [mem_below hn hj, belowS_iff hn hj hk] at h2
  rw [belowS_iff hn hi hk]
  rcases h2 with rfl | h2
  · exact .inr hp
  · exact .inr (hp.trans h2)
end
/-! The least fee. -/
theorem need_le {l : List Ent} {S : Int} : ∀ {ids : List ByteArray} {n m : Int}, needI l S n ids ≤ m ↔ n ≤ m ∧ ∀ s ∈ ids, (getE l s).fee * S / (getE l s).size + 1 ≤ m
  | [], n, m => by simp [needI]
  | s :: ids, n, m => by
    have ih := need_le (l := l) (S := S) (ids := ids) (n := max n ((getE l s).fee * S / (getE l s).size + 1)) (m := m)
    unfold needI at ih ⊢
    rw [List.foldl_cons, ih]
    simp only [List.mem_cons, forall_eq_or_imp]
    constructor
    · rintro ⟨h1, h2⟩; exact ⟨by omega, by omega, h2⟩
    · rintro ⟨h1, h2, h3⟩; exact ⟨by omega, h3⟩
theorem need_take {l : List Ent} {S n : Int} {ids : List ByteArray} {i : Nat} (h : i < ids.length) : needI l S n (ids.take (i + 1)) = max (needI l S n (ids.take i)) ((getE l ids[i]).fee * S / (getE l ids[i]).size + 1) := by
  unfold needI
  rw [List.take_succ_eq_append_getElem h, List.foldl_append]; rfl
theorem need_base {l : List Ent} {S n : Int} {ids : List ByteArray} : n ≤ needI l S n ids := (need_le.1 (Int.le_refl _)).1
/-- One pays more for its size. -/
theorem more_iff {f s o i : Int} (h1 : pricedB f s = true) (h2 : pricedB o i = true) : cmpR f s o i > 0 ↔ o * s / i + 1 ≤ f := by
  have h2' := h2
  unfold pricedB at h2'
  rw [Bool.and_eq_true, goodB_iff, decide_eq_true_eq] at h2'
  unfold cmpR
  rw [h1, h2, Bool.and_self, if_pos rfl]
  have e : o * s / i + 1 ≤ f ↔ o * s < f * i := by
    rw [← Int.ediv_lt_iff_lt_mul (by omega)]; omega
  rw [e]
  split
  · omega
  · split <;> omega
end Go.K
end
section
namespace Go.K
open Go
def cmpU (a b : Nat) : Int := if a < b then -1 else if b < a then 1 else 0
def orU (a b : Int) : Int := if a = 0 then b else a
theorem pricedB_iff {f s : Int} : pricedB f s = true ↔ (0 ≤ f ∧ f ≤ 2100000000000000) ∧ 1 ≤ s ∧ s ≤ 1000000 := by
  unfold pricedB
  rw [Bool.and_eq_true, goodB_iff, decide_eq_true_eq]
theorem pricedB_nat {f s : Int} (h : pricedB f s = true) : ∃ F S : Nat, f = (F : Nat) ∧ s = (S : Nat) ∧ F ≤ 2100000000000000 ∧ 1 ≤ S ∧ S ≤ 1000000 := by
  rw [pricedB_iff] at h
  exact ⟨f.toNat, s.toNat, by omega, by omega, by omega, by omega, by omega⟩
end Go.K
end
section
namespace Go.Proofs.YtilhlcnekkkajaaGreat
open Go Go.K
attribute [local irreducible] regK codeK retK KOp.wp K.Spec u32 leS vnS str zero32 sha2 encT idT sizeT checkT grantB idN stepR workL reachE findI

end Go.Proofs.YtilhlcnekkkajaaGreat
end
section
namespace Go.Proofs.YtilhlcnekkkajaaGreat
open Go Go.K
attribute [local irreducible] regK codeK retK KOp.wp K.Spec u32 leS vnS str zero32 sha2 encT idT sizeT checkT grantB idN hangs stepR findI

abbrev bBase (l : List Ent) (id : ByteArray) (i : Nat) : Bool := decide ((i : Int) = findI l id)
abbrev bEdge (l : List Ent) (k i : Nat) : Bool := hangE l i k
theorem stepR_none {base : Nat → Bool} {edge : Nat → Nat → Bool} {n : Nat} (h : ∀ i, i < n → base i = false) : ∀ (r i : Nat), i < n → stepR base edge n r i = false
  | 0, i, _ => by unfold stepR; rfl
  | r + 1, i, hi => by
    rw [← Bool.not_eq_true, stepR_succ]
    rintro (h1 | ⟨k, h1, h2, h3⟩)
    · rw [h i hi] at h1; cases h1
    · rw [stepR_none h r k h1] at h2; cases h2
end Go.Proofs.YtilhlcnekkkajaaGreat
end
