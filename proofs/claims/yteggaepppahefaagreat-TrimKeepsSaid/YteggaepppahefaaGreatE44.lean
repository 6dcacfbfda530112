/- Contracts: the score of an entry, the worst one, the total size, by the program. Contracts: trimming a graph, by the program. -/
import Derived.Test.YteggaepppahefaaGreatE38
import Derived.Test.YteggaepppahefaaGreatE43
set_option linter.unusedVariables false
set_option linter.unusedSimpArgs false
section
namespace Go.Proofs.YteggaepppahefaaGreat
open Go Go.K
attribute [local irreducible] regK codeK retK KOp.wp K.Spec u32 leS vnS str zero32 sha2 encT idT sizeT checkT grantB idN stepR workL reachE findI dropG addG aboveL belowL idsOf feeD sizeD scoreL worstI cmpR rateR sizeL

theorem idsOf_le1 (l : List Ent) (m : List Bool) : (idsOf l m).length ≤ l.length := by
  have := (idsOf_sub l m).length_le
  simpa using this
theorem score_spec {g : Nat} {M : List Nat} {l : List Ent} (id : ByteArray) (w : World) (hG : GrR w g M l) (hM : ∀ b ∈ M, b < w.heap.size) (hl : l.length ≤ 1000) :
    K.Spec Tryz.prog F.trim_Score [.pointer (some ⟨g, 0, none⟩), .string id] w fun r w' => r = .tuple #[.int .i64 (scoreP l id).1, .int .i64 (scoreP l id).2] ∧ Ext w w' := by
  have hnd := hG.nodup
  have hlen : (idsOf l (belowL l id)).length ≤ 4000 := Nat.le_trans (idsOf_le1 l _) (by omega)
  refine s_trim_Score rfl ?_
  unfold k_trim_Score
  refine ox ?_
  repeat' (first|(first|refine go1 ?_|refine zg (fun _ _=>?_)|refine zi (fun _ _=>?_))|(refine zC rfl (get_spec (M := M) id _ (hG.ext (by exact fx)) (fun b hb => Nat.lt_of_lt_of_le (hM b hb) (Ext.size (by exact fx)))) ?_; rintro v5 w5 ⟨ds, rfl, e5, x5⟩; obtain ⟨iv, ov, rfl, o1, o2, o3⟩ := e5; have i1 := o1.one; have i2 := o2.one)|(refine zE (fun _=>rfl) rfl rfl (by simp [entCs, i1, i2]; exact ⟨rfl, rfl, rfl, rfl, rfl⟩) (fun b6 w6 x6 a6 (r6 : Row w6 ⟨b6, 0, none⟩ (entCs (getE l id) iv ov)) hb6=>?_))|(refine zM rfl (fun h => ?_) (fun h => ?_))|(refine zN rfl (fun h => ?_) (fun h => ?_))|(refine zL rfl (fun h => ?_) (fun h => ?_))|(refine zC rfl (pbelow_spec (M := M) (l := l) id _ (hG.ext (by exact fx)) (fun b hb => Nat.lt_of_lt_of_le (hM b hb) (Ext.size (by exact fx))) hl) ?_; rintro vb w7 ⟨ob, x7⟩; have sb := ob.sl)|(refine zC rfl (gsum_spec (M := M) (l := l) (ids := idsOf l (belowL l id)) _ (hG.ext (by exact fx)) (fun b hb => Nat.lt_of_lt_of_le (hM b hb) (Ext.size (by exact fx))) (SlE.ext (by exact fx) sb) hlen) ?_; rintro _ w8 ⟨rfl, x8⟩)|(refine zC rfl (compare_spec _ _ _ _ _) ?_; rintro _ w9 ⟨rfl, x9⟩))
  · have hh : hasE l id = false := by simpa using h
    have e : scoreP l id = (0, 0) := by unfold scoreP; rw [if_neg (by rw [hh]; decide)]
    rw [e]
    exact x_ret rfl ⟨rfl, by exact fx⟩
  · have hh : hasE l id = true := by simpa using ‹(!hasE l id) = false›
    rw [scoreP_has hnd hh, if_pos (of_decide_eq_true h)]
    exact x_ret rfl ⟨rfl, by exact fx⟩
  · have hh : hasE l id = true := by simpa using ‹(!hasE l id) = false›
    rw [scoreP_has hnd hh, if_neg (of_decide_eq_false h)]
    exact x_ret rfl ⟨rfl, by exact fx⟩
theorem GrR.id32 {w : World} {g : Nat} {M : List Nat} {l : List Ent} (hG : GrR w g M l) : ∀ x ∈ l, x.id.size = 32 := fun x hx => by rw [(hG.ok x hx).id]; exact idT_size _
theorem total_spec {g : Nat} {M : List Nat} {l : List Ent} (w : World) (hG : GrR w g M l) (hM : ∀ b ∈ M, b < w.heap.size) (hl : l.length ≤ 1000) :
    K.Spec Tryz.prog F.trim_total [.pointer (some ⟨g, 0, none⟩)] w fun r w' => r = .int .i64 (sizeL l) ∧ Ext w w' := by
  have hfit : ∀ x ∈ l, 0 ≤ x.size ∧ x.size ≤ (100000000000 : Nat) := fun x hx => (entOk_fit (hG.ok x hx)).2
  have h00 : sizeL (l.take 0) = 0 := by rw [List.take_zero]; unfold sizeL; rfl
  refine s_trim_total rfl ?_
  unfold k_trim_total
  refine ox ?_
  repeat' (first|(first|refine go1 ?_|refine zg (fun _ _=>?_)|refine zi (fun _ _=>?_))|(refine zC (d := some 7) rfl (all_spec (M := M) (l := l) _ (hG.ext (by exact fx)) hM (by omega)) ?_; rintro va w2 ⟨oa, x2⟩; have sa := oa.slB hM)|(refine zG (E := entR) (M := M) (l := l) rfl (SlR.ext sa (by exact fx)) ?_)|(refine zL rfl (fun h => ?_) (fun h => ?_))|(refine c_loopV (fun (i : Nat) w' => Ext w2 w' ∧ i ≤ l.length) (fun i => [(0, .pointer (some ⟨g, 0, none⟩)), (3, .int .i64 (sizeL (l.take i))), (7, va), (8, .int .i64 (l.length : Nat)), (9, .int .i64 i)]) (fun i => l.length - i) 0 ⟨rfl, by rw [h00]; rfl, rfl, rfl, rfl, trivial⟩ ⟨Ext.refl _, Nat.zero_le _⟩ ?_; rintro i ρ w3 ⟨x3, hi⟩; have b1 := sizeL_bound (c := 100000000000) (l := l.take i) (fun x hx => hfit x (List.mem_of_mem_take hx)); have b2 : (l.take i).length ≤ l.length := (by rw [List.length_take]; omega))|(have hil : i < l.length := (by omega); have b3 := hfit _ (List.getElem_mem hil); refine st_elemR (d := some 11) (E := entR) (M := M) rfl rfl (n := i) (l := l) (SlR.ext sa (by exact fx)) rfl hil (fun ad cs r4 he => ?_); obtain ⟨iv, ov, rfl, q1, q2, q3⟩ := he; have i1 := q1.one; have i2 := q2.one)|(refine zE (d' := 5) (fun _=>rfl) rfl rfl (by simp [entCs, i1, i2]; exact ⟨rfl, rfl, rfl, rfl, rfl⟩) (fun b6 w6 x6 a6 (r6 : Row w6 ⟨b6, 0, none⟩ (entCs l[i] iv ov)) hb6=>?_)))
  · refine ⟨i + 1, ⟨rfl, ?_, rfl, rfl, rfl, trivial⟩, ⟨by exact fx, by omega⟩, by omega⟩
    show _ = Value.int .i64 (sizeL (l.take (i + 1)))
    rw [sizeL_take hil]; rfl
  · rw [List.take_of_length_le (by omega)]
    exact x_ret rfl ⟨rfl, x2.trans x3⟩
set_option maxHeartbeats 1000000 in
theorem worst_spec {g : Nat} {M : List Nat} {l : List Ent} (w : World) (hG : GrR w g M l) (hM : ∀ b ∈ M, b < w.heap.size) (hl : l.length ≤ 1000) :
    K.Spec Tryz.prog F.trim_Worst [.pointer (some ⟨g, 0, none⟩)] w fun r w' => r = .tuple #[.string (wS l l.length), .bool (decide (0 < l.length))] ∧ Ext w w' := by
  have hnd := hG.nodup
  have hid := hG.id32
  have hws : (!decide (wS l l.length = ⟨#[]⟩)) = decide (0 < l.length) := by
    by_cases h0 : 0 < l.length
    · rw [decide_eq_true h0, decide_eq_false (wS_ne hid h0 (Nat.le_refl _))]; rfl
    · rw [decide_eq_false h0, decide_eq_true (by unfold wS; rw [if_pos (by omega)])]; rfl
  rw [← hws]
  refine s_trim_Worst rfl ?_
  unfold k_trim_Worst
  refine ox ?_
  repeat' (first|(first|refine go1 ?_|refine zg (fun _ _=>?_)|refine zi (fun _ _=>?_))|(refine zC (d := some 12) rfl (all_spec (M := M) (l := l) _ (hG.ext (by exact fx)) hM (by omega)) ?_; rintro va w2 ⟨oa, x2⟩; have sa := oa.slB hM)|(refine zG (E := entR) (M := M) (l := l) rfl (SlR.ext sa (by exact fx)) ?_)|(refine zL rfl (fun h => ?_) (fun h => ?_))|(refine zJ rfl (fun h => ?_) (fun h => ?_))|(refine c_loopV (fun (i : Nat) w' => Ext w2 w' ∧ i ≤ l.length) (fun i => [(0, .pointer (some ⟨g, 0, none⟩)), (4, .string (wS l i)), (5, .int .i64 (wP l i).1), (6, .int .i64 (wP l i).2), (12, va), (13, .int .i64 (l.length : Nat)), (14, .int .i64 i)]) (fun i => l.length - i) 0 ⟨rfl, rfl, rfl, rfl, rfl, rfl, rfl, trivial⟩ ⟨Ext.refl _, Nat.zero_le _⟩ ?_; rintro i ρ w3 ⟨x3, hi⟩)|(have hil : i < l.length := (by omega); refine st_elemR (d := some 16) (E := entR) (M := M) rfl rfl (n := i) (l := l) (SlR.ext sa (by exact fx)) rfl hil (fun ad cs r4 he => ?_); obtain ⟨iv, ov, rfl, q1, q2, q3⟩ := he; have i1 := q1.one; have i2 := q2.one)|(refine zE (d' := 8) (fun _=>rfl) rfl rfl (by simp [entCs, i1, i2]; exact ⟨rfl, rfl, rfl, rfl, rfl⟩) (fun b6 w6 x6 a6 (r6 : Row w6 ⟨b6, 0, none⟩ (entCs l[i] iv ov)) hb6=>?_))|(refine zC (d := some 22) rfl (score_spec (M := M) (l := l) l[i].id _ (hG.ext (by exact fx)) (fun b hb => Nat.lt_of_lt_of_le (hM b hb) (Ext.size (by exact fx))) hl) ?_; rintro _ w7 ⟨rfl, x7⟩; rw [scoreP_mem hnd (List.getElem_mem hil)])|(refine zC (d := some 32) rfl (compare_spec _ _ _ _ _) ?_; rintro _ w8 ⟨rfl, x8⟩))
  · obtain ⟨-, e1, e2⟩ := w_take hid hil (.inl h)
    exact ⟨i + 1, ⟨rfl, congrArg Value.string e1.symm, congrArg (fun p : Int × Int => Value.int .i64 p.1) e2.symm, congrArg (fun p : Int × Int => Value.int .i64 p.2) e2.symm, rfl, rfl, rfl, trivial⟩, ⟨by exact fx, by omega⟩, by omega⟩
  · obtain ⟨-, e1, e2⟩ := w_take hid hil (.inr h)
    exact ⟨i + 1, ⟨rfl, congrArg Value.string e1.symm, congrArg (fun p : Int × Int => Value.int .i64 p.1) e2.symm, congrArg (fun p : Int × Int => Value.int .i64 p.2) e2.symm, rfl, rfl, rfl, trivial⟩, ⟨by exact fx, by omega⟩, by omega⟩
  · obtain ⟨-, e1, e2⟩ := w_keep hil ‹_› h
    exact ⟨i + 1, ⟨rfl, congrArg Value.string e1.symm, congrArg (fun p : Int × Int => Value.int .i64 p.1) e2.symm, congrArg (fun p : Int × Int => Value.int .i64 p.2) e2.symm, rfl, rfl, rfl, trivial⟩, ⟨by exact fx, by omega⟩, by omega⟩
  · obtain rfl : i = l.length := by omega
    exact x_ret rfl ⟨rfl, x2.trans x3⟩
end Go.Proofs.YteggaepppahefaaGreat
end
section
namespace Go.Proofs.YteggaepppahefaaGreat
open Go Go.K
section
variable {P : Program} {d : Option Tmp} {r : KR} {K : Env → World → Prop} {ρ : Env} {w : World}
theorem st_max {x y : Operand} {a b : Int} (hx : ev ρ x = .int .i64 a) (hy : ev ρ y = .int .i64 b) (k : regK P r K (put ρ d (.int .i64 (max a b))) w) : regK P (.cons ⟨d, .minmax true x [y], none⟩ r) K ρ w :=
  st_fix rfl (by
    have e : (if b > a then b else a) = max a b := by split <;> omega
    simp only [KOp.fix, List.foldl_cons, List.foldl_nil, hx, hy, Option.bind_some, minmax2, if_true, e]) k
end
theorem rateR_le (f s : Int) : rateR f s ≤ 2100000000000000000 := by
  cases h : pricedB f s with
  | false => unfold rateR; rw [h]; simp
  | true =>
    obtain ⟨F', S', rfl, rfl, b1, b2, b3⟩ := pricedB_nat h
    rw [rateR_nat h]
    have := Nat.div_le_self (F' * 1000) S'
    omega
theorem wS_worst {l : List Ent} (h : 0 < l.length) : wS l l.length = (worstE l).id := by
  unfold wS worstE
  rw [if_neg (by omega)]
theorem Own.blk_lt {α : Type} {E : Enc α} {t : TypeId} {B : Nat} {w : World} {v : Value} {l : List α} (h : Own E t B w v l) : ∀ b ∈ blkOf v, b < w.heap.size := by
  rcases h with ⟨rfl, rfl⟩ | ⟨b, cap, junk, rfl, hB, hat, hl⟩ <;> simp [blkOf]
  exact hat.lt
attribute [local irreducible] regK codeK retK KOp.wp K.Spec u32 leS vnS str zero32 sha2 encT idT sizeT checkT grantB idN stepR workL reachE findI dropG addG aboveL belowL idsOf feeD sizeD scoreL worstI cmpR rateR sizeL trimL wMask worstE leftL dropAll wS

structure TrimI (w : World) (l : List Ent) (n : Int) (B g : Nat) (M U : List Nat) (L : List Ent) (M1 : List Nat) (v : Value) (G : List ByteArray) (R : Int) (w' : World) : Prop where
  chg : Chg M w w'
  gr : GrU w' B g M1 (blkOf v ++ U) L
  own : Own strE T.string w.heap.size w' v G
  low : ∀ b ∈ M1, b ∈ M ∨ w.heap.size ≤ b
  eq : trimL n l = ((trimL n L).1, G ++ (trimL n L).2.1, max R (trimL n L).2.2)
  rate : 0 ≤ R
  len : G.length + L.length ≤ l.length
theorem TrimI.start {w : World} {l : List Ent} {n : Int} {B g : Nat} {M U : List Nat} (hG : GrU w B g M U l) : TrimI w l n B g M U l M (.slice none 0 0) [] 0 w :=
  ⟨Chg.refl _ _, hG, Own.nil _ _ _, fun _ h => .inl h, by
    have := (trim_rate (m := n) hG.gr.nodup).1
    rw [List.nil_append, Int.max_eq_right this], Int.le_refl _, by simp⟩
theorem TrimI.stop {w w' : World} {l L : List Ent} {n R : Int} {B g : Nat} {M U M1 : List Nat} {v : Value} {G : List ByteArray} (h : TrimI w l n B g M U L M1 v G R w') (hs : L.length = 0 ∨ sizeL L ≤ n) : trimL n l = (L, G, R) := by
  have e := h.eq
  rw [trimL_stop hs, List.append_nil] at e
  rw [e, Int.max_eq_left h.rate]
set_option maxHeartbeats 2000000 in
theorem trim_spec {B g : Nat} {M U : List Nat} {l : List Ent} (n : Int) (w : World) (hG : GrU w B g M U l) (hU : ∀ b ∈ U, b < w.heap.size) (hl : l.length ≤ 1000) :
    K.Spec Tryz.prog F.trim_Trim [.pointer (some ⟨g, 0, none⟩), .int .i64 n] w fun r w' => ∃ M' v, r = .tuple #[v, .int .i64 (trimL n l).2.2] ∧ GrU w' B g M' U (trimL n l).1 ∧ Own strE T.string w.heap.size w' v (trimL n l).2.1 ∧ Chg M w w' ∧ (∀ b ∈ M', b ∈ M ∨ w.heap.size ≤ b) ∧ ∀ b ∈ blkOf v, b ∉ M' := by
  refine s_trim_Trim rfl ?_
  unfold k_trim_Trim
  refine ox ?_
  repeat' (first|(first|refine go1 ?_|refine zg (fun _ _=>?_)|refine zi (fun _ _=>?_))|(refine c_loopV (fun (p : List Ent × List Nat × Value × List ByteArray × Int) w' => TrimI w l n B g M U p.1 p.2.1 p.2.2.1 p.2.2.2.1 p.2.2.2.2 w') (fun p => [(0, .pointer (some ⟨g, 0, none⟩)), (1, .int .i64 n), (6, p.2.2.1), (7, .int .i64 p.2.2.2.2)]) (fun p => p.1.length) (l, M, .slice none 0 0, [], 0) ⟨rfl, rfl, rfl, rfl, trivial⟩ (TrimI.start hG) ?_; rintro ⟨L, M1, v, G, R⟩ ρ w1 I1; simp only at I1; dsimp only))
  have hM1 := I1.gr.gr.lt
  have hLl : L.length ≤ 1000 := by have := I1.len; omega
  have hnd := I1.gr.gr.nodup
  have hGR := I1.gr.gr.r
  have s1 := I1.chg.size
  have hr1 := rateR_nonneg (scoreL L (worstE L)).1 (scoreL L (worstE L)).2
  have hr2 := rateR_le (scoreL L (worstE L)).1 (scoreL L (worstE L)).2
  repeat' (first|(refine st_max (d := some 38) rfl rfl ?_)|(first|refine go1 ?_|refine zg (fun _ _=>?_)|refine zi (fun _ _=>?_))|(refine zC (d := some 15) rfl (total_spec (M := M1) (l := L) _ (hGR.ext (by exact fx)) (fun b hb => Nat.lt_of_lt_of_le (hM1 b hb) (Ext.size (by exact fx))) hLl) ?_; rintro _ w2 ⟨rfl, x2⟩)|(refine zC (d := some 20) rfl (worst_spec (M := M1) (l := L) _ (hGR.ext (by exact fx)) (fun b hb => Nat.lt_of_lt_of_le (hM1 b hb) (Ext.size (by exact fx))) hLl) ?_; rintro _ w3 ⟨rfl, x3⟩)|(refine zL rfl (fun h => ?_) (fun h => ?_))|(refine zN rfl (fun h0 => ?_) (fun h0 => ?_))|(refine zC (d := some 28) rfl (score_spec (M := M1) (l := L) (wS L L.length) _ (hGR.ext (by exact fx)) (fun b hb => Nat.lt_of_lt_of_le (hM1 b hb) (Ext.size (by exact fx))) hLl) ?_; rintro _ w4 ⟨rfl, x4⟩; rw [wS_worst h0, scoreP_mem hnd (worst_mem h0)])|(refine zC (d := some 31) rfl (rate_spec _ _ _) ?_; rintro _ w5 ⟨rfl, x5⟩)|(refine zC (d := some 41) rfl (pbelow_spec (M := M1) (l := L) (worstE L).id _ (hGR.ext (by exact fx)) (fun b hb => Nat.lt_of_lt_of_le (hM1 b hb) (Ext.size (by exact fx))) hLl) ?_; rintro vb w6 ⟨ob, x6⟩))
  · have e := I1.stop (.inl (by omega))
    rw [e]
    exact x_ret rfl ⟨M1, v, rfl, I1.gr.more (x2.trans x3) (fun b hb => .inl (List.mem_append_right _ hb)), I1.own.ext (x2.trans x3), I1.chg.ext (x2.trans x3), I1.low, fun b hb hm => I1.gr.dj b hm (List.mem_append_left _ hb)⟩
  · have hlen := idsOf_le1 L (wMask L)
    obtain ⟨ids, hids⟩ : ∃ ids, ids = idsOf L (wMask L) := ⟨_, rfl⟩
    have e1 : idsOf L (belowL L (worstE L).id) = ids := by rw [hids]; unfold wMask; rfl
    rw [e1] at ob
    rw [← hids] at hlen
    have x16 : Ext w1 w6 := (((x2.trans x3).trans x4).trans x5).trans x6
    have sz16 := x16.size
    have sz15 := (((x2.trans x3).trans x4).trans x5).size
    have hbb := ob.base
    have G6 := I1.gr.ext x16
    have o6 := I1.own.ext x16
    have C6 := I1.chg.ext x16
    have hvb := Own.blk_lt I1.own
    have ob1 : ∀ b ∈ blkOf vb, b ∉ M1 ∧ b ∉ blkOf v := fun b hb => ⟨fun h => by have := hM1 b h; have := hbb b hb; omega, fun h => by have := hvb b h; have := hbb b hb; omega⟩
    have d0 : dropAll L (ids.take 0) = L := by rw [List.take_zero]; unfold dropAll; rfl
    have t0 : G ++ ids.take 0 = G := by rw [List.take_zero, List.append_nil]
    have ll := I1.len
    repeat' (first|(first|refine go1 ?_|refine zg (fun _ _=>?_)|refine zi (fun _ _=>?_))|(refine st_len (E := strE) (l := ids) rfl ob.sl ?_)|(refine c_loopV (fun (p : Nat × List Nat × Value) w' => Chg M w w' ∧ GrU w' B g p.2.1 (blkOf p.2.2 ++ U) (dropAll L (ids.take p.1)) ∧ Own strE T.string w.heap.size w' p.2.2 (G ++ ids.take p.1) ∧ (∀ b ∈ p.2.1, b ∈ M ∨ w.heap.size ≤ b) ∧ p.1 ≤ ids.length ∧ Own strE T.string w5.heap.size w' vb ids ∧ ∀ b ∈ blkOf vb, b ∉ p.2.1 ∧ b ∉ blkOf p.2.2) (fun p => [(0, .pointer (some ⟨g, 0, none⟩)), (1, .int .i64 n), (6, p.2.2), (7, .int .i64 (max R (askR (scoreL L (worstE L))))), (41, vb), (42, .int .i64 (ids.length : Nat)), (43, .int .i64 p.1)]) (fun p => ids.length - p.1) (0, M1, v) ⟨rfl, rfl, rfl, rfl, rfl, rfl, rfl, trivial⟩ ⟨C6, by rw [d0]; exact G6, by rw [t0]; exact o6, I1.low, Nat.zero_le _, ob, ob1⟩ ?_; rintro ⟨k, M2, v2⟩ ρ2 w7 ⟨C7, G7, o7, low7, hk, ob7, dj7⟩; simp only at C7 G7 o7 low7 hk ob7 dj7; dsimp only)|(refine zL rfl (fun h2 => ?_) (fun h2 => ?_)))
    · have hkl : k < ids.length := by omega
      have sz7 := C7.size
      have hv2 := Own.blk_lt o7
      have hv2b := o7.base
      have hbl7 := Own.blk_lt ob7
      have hU7 : ∀ b ∈ blkOf v2 ++ U, b < w7.heap.size := fun b hb => (List.mem_append.1 hb).elim (hv2 b) (fun h => by have := hU b h; omega)
      have hdl := @dropAll_len L (ids.take k)
      have htk : (ids.take k).length = k := by rw [List.length_take]; omega
      refine st_elemE (d := some 45) (E := strE) rfl rfl (n := k) (l := ids) ob7.sl rfl hkl (fun ad r5 => ?_)
      have r5 : Row w7 ad [Value.string ids[k]] := r5
      repeat' (first|refine go1 ?_|refine zg (fun _ _=>?_)|refine zi (fun _ _=>?_))
      refine zC (d := some 49) rfl (gdrop_gu (M := M2) (U := blkOf v2 ++ U) (l := dropAll L (ids.take k)) ids[k] _ G7 hU7 (by omega)) ?_
      rintro _ w8 ⟨M3, rfl, G8, c8, hb8⟩
      have o8 := o7.chg c8 (fun b hb h => G7.dj b h (List.mem_append_left _ hb))
      have ob8 := ob7.chg c8 (fun b hb => (dj7 b hb).1)
      have sz8 := c8.size
      have C8 : Chg M w w8 := (C7.trans c8).mono (fun b hb => (List.mem_append.1 hb).elim .inl (fun h => low7 b h))
      clear r5
      repeat' (first|refine go1 ?_|refine zg (fun _ _=>?_)|refine zi (fun _ _=>?_))
      refine zI (d := some 52) (cs := [.string ids[k]]) rfl (fun b9 w9 x9 a9 hb9 => ?_)
      have sz9 := x9.size
      refine st_appendX (d := some 53) (E := strE) (v := v2) (l2 := [ids[k]]) rfl (o8.ext x9) (by omega) rfl rfl (sl_new a9 rfl) rfl rfl (by simp only [List.length_append, List.length_cons, List.length_nil]; omega) (fun v5 w10 o10 _ c10 hb10 => ?_)
      have sz10 := c10.size
      have G10 : GrU w10 B g M3 (blkOf v5 ++ U) (dropAll L (ids.take (k + 1))) := by
        rw [dropAll_succ hkl]
        refine GrU.chg (G8.ext x9) (c10.mono (fun b hb => .inl (List.mem_append_left _ hb))) (fun b hb => (List.mem_append.1 hb).elim (fun h => (hb10 b h).imp (fun h2 => List.mem_append_left _ h2) id) (fun h => .inl (List.mem_append_right _ h)))
      have ob10 := (ob8.ext x9).chg c10 (fun b hb => (dj7 b hb).2)
      have o10' : Own strE T.string w.heap.size w10 v5 (G ++ ids.take (k + 1)) := by
        rw [List.take_succ_eq_append_getElem hkl, ← List.append_assoc]; exact o10
      repeat' (first|refine go1 ?_|refine zg (fun _ _=>?_)|refine zi (fun _ _=>?_))
      refine ⟨(k + 1, M3, v5), ⟨rfl, rfl, rfl, rfl, rfl, rfl, rfl, trivial⟩, ⟨((C8.ext x9).trans c10).mono (fun b hb => (List.mem_append.1 hb).elim .inl (fun h => .inr (hv2b b h))), G10, o10', fun b hb => (hb8 b hb).elim (low7 b) (fun h => .inr (by omega)), by simp only; omega, ob10, fun b hb => ⟨fun h => (hb8 b h).elim (dj7 b hb).1 (fun h3 => by have := hbl7 b hb; omega), fun h => (hb10 b h).elim (dj7 b hb).2 (fun h3 => by have := hbl7 b hb; omega)⟩⟩, by simp only; omega⟩
    · obtain rfl : k = ids.length := by omega
      rw [List.take_of_length_le (Nat.le_refl _)] at G7 o7
      have hd : dropAll L ids = leftL L (wMask L) := by rw [hids]; exact dropAll_left _ _ hnd
      rw [hd] at G7
      have hll := leftL_len L (wMask L)
      rw [← hids] at hll
      refine ⟨(leftL L (wMask L), M2, v2, G ++ ids, max R (askR (scoreL L (worstE L)))), ⟨rfl, rfl, rfl, rfl, trivial⟩, ⟨C7, G7, o7, low7, ?_, by simp only; have := I1.rate; omega, by simp only [List.length_append]; omega⟩, left_less hnd h0⟩
      rw [I1.eq, trimL_step hnd (by omega), hids]
      simp only [List.append_assoc, Int.max_assoc]
  · have e := I1.stop (.inr (by omega))
    rw [e]
    exact x_ret rfl ⟨M1, v, rfl, I1.gr.more x2 (fun b hb => .inl (List.mem_append_right _ hb)), I1.own.ext x2, I1.chg.ext x2, I1.low, fun b hb hm => I1.gr.dj b hm (List.mem_append_left _ hb)⟩
end Go.Proofs.YteggaepppahefaaGreat
end
