/- Contracts: what a transaction conflicts with, and evicts, by the program. Contracts: has a graph just some entries? The walk of GraphPlays: the entries that are kept. Plain: what rules of replacing say. Plain: entries that are added anew, and dropped from the last one on. The walk of GraphAgain. Plain: what comes in place of others; what an entry conflicts with. Plain: counts of ids; which entries -/
import Derived.Test.YteggaepppahefaaGreatG39
set_option linter.unusedVariables false
set_option linter.unusedSimpArgs false
section
namespace Go.Proofs.YteggaepppahefaaGreat
open Go Go.K
attribute [local irreducible] regK codeK retK KOp.wp K.Spec u32 leS vnS str zero32 sha2 encT idT sizeT checkT grantB idN stepR workL reachE findI dropG addG aboveL belowL idsOf feeD sizeD
theorem pt_dec (p q : Pt) : (decide (p.s = q.s) && (decide (p.i = q.i) && true)) = decide (p = q) := by
  cases p; cases q
  simp only [Bool.and_true, Pt.mk.injEq]
  exact Bool.decide_and _ _ |>.symm
theorem conf2_hb : hasBody Tryz.prog F.replace_Conflicts_1_1 = true := by kernel_rfl
theorem conf1_hb : hasBody Tryz.prog F.replace_Conflicts_1 = true := by kernel_rfl
theorem conf2_spec (a b : TIn) (av bv : Value) {ba : Nat} (w : World) (hbv : bv.oneCell' = true) (ha : Row w ⟨ba, 0, none⟩ (inCs a av)) : K.Spec Tryz.prog F.replace_Conflicts_1_1 [.agg (inCs b bv).toArray, .pointer (some ⟨ba, 0, none⟩)] w fun r w' => r = .bool (decide (a.p = b.p)) ∧ Ext w w' := by
  rw [← pt_dec]
  refine s_replace_Conflicts_1_1 rfl ?_
  unfold k_replace_Conflicts_1_1
  refine ox ?_
  repeat' (first|(first|refine go1 ?_|refine zg (fun _ _=>?_)|refine zi (fun _ _=>?_))|(refine zD rfl rfl (fun bp wp xp ap (rp : Row wp ⟨bp, 0, none⟩ (inCs b bv)) hp0=>?_)))
  exact x_ret rfl ⟨rfl, by exact fx⟩
theorem conf1_spec {M : List Nat} (a : TIn) (av iv ov : Value) {bt : Nat} {t : Tx} (w : World) (hav : av.oneCell' = true) (ht : Row w ⟨bt, 0, none⟩ (txCs t iv ov)) (hi : SlR inR M w iv t.ins) (hn : t.ins.length ≤ 1000) : K.Spec Tryz.prog F.replace_Conflicts_1 [.agg (inCs a av).toArray, .pointer (some ⟨bt, 0, none⟩)] w fun r w' => r = .bool (t.ins.any fun b => decide (a.p = b.p)) ∧ Ext w w' := by
  refine s_replace_Conflicts_1 rfl ?_
  unfold k_replace_Conflicts_1
  refine ox ?_
  repeat' (first|(first|refine go1 ?_|refine zg (fun _ _=>?_)|refine zi (fun _ _=>?_))|(refine zD rfl rfl (fun bp wp xp ap (rp : Row wp ⟨bp, 0, none⟩ (inCs a av)) hp0=>?_))|(refine zC rfl (idxIn_any (l := t.ins) (M := M) (g := F.replace_Conflicts_1_1) (capl := [_]) (p := fun b => decide (a.p = b.p)) _ conf2_hb (SlR.ext hi (by exact fx)) (by omega) ?_) ?_; rotate_left; rintro _ w2 ⟨rfl, x2⟩))
  · exact x_ret rfl ⟨rfl, by exact fx⟩
  · intro x _ w' cs x2 hc
    obtain ⟨bv, rfl, hw, _⟩ := hc
    exact conf2_spec a x av bv w' hw.one (rp.ext x2)
theorem confL_take {l : List Ent} {t : Tx} {i : Nat} (h : i < l.length) : idsOf (l.take (i + 1)) ((confL l t).take (i + 1)) = idsOf (l.take i) ((confL l t).take i) ++ if hitE t l[i] = true then [l[i].id] else [] := by
  have e : (confL l t)[i]'(by rw [← confL_len]; exact h) = hitE t l[i] := by simp [confL]
  rw [idsOf_take confL_len h, e]
set_option maxHeartbeats 2000000 in
theorem conflicts_spec {g : Nat} {M N : List Nat} {l : List Ent} {cs : List Value} {t : Tx} (w : World) (hG : GrR w g M l) (hM : ∀ b ∈ M, b < w.heap.size) (ht : txR.rel N w cs t) (hs : t.ins.length ≤ 1000) (hl : l.length ≤ 1000) :
    K.Spec Tryz.prog F.replace_Conflicts [.pointer (some ⟨g, 0, none⟩), .agg cs.toArray] w fun r w' => Own strE T.string w.heap.size w' r (idsOf l (confL l t)) ∧ Ext w w' := by
  have hsm : ∀ x ∈ l, x.tx.Sm := fun x hx => chk_sm (hG.ok x hx).check
  have id0 : idsOf (l.take 0) ((confL l t).take 0) = [] := by rw [List.take_zero, List.take_zero]; unfold idsOf; rfl
  obtain ⟨iv, ov, rfl, hi, ho, hv⟩ := ht
  refine s_replace_Conflicts rfl ?_
  unfold k_replace_Conflicts
  refine ox ?_
  repeat' (first|(first|refine go1 ?_|refine zg (fun _ _=>?_)|refine zi (fun _ _=>?_))|(refine zD (d := some 3) rfl rfl (fun bt wt xt bt' (rt : Row wt ⟨bt, 0, none⟩ (txCs t iv ov)) ht0=>?_))|(refine zC (d := some 9) rfl (all_spec (M := M) (l := l) _ (hG.ext (by exact fx)) (fun b hb => Nat.lt_of_lt_of_le (hM b hb) (Ext.size (by exact fx))) (by omega)) ?_; rintro va w2 ⟨oa, x2⟩; have sa : SlR entR [] w2 va l := (oa.sub (M' := []) (by simp)).sl (by simp); have x02 : Unit → Ext w w2 := (fun _ => by exact fx); have s02 := (x02 ()).size; have i2 := hi.ext (x02 ()); have r2 := rt.ext x2)|(refine zG (d := some 10) (E := entR) (M := []) (l := l) rfl (SlR.ext sa (by exact fx)) ?_)|(refine zL rfl (fun h => ?_) (fun h => ?_))|(refine c_loopV (fun (p : Nat × Value) w' => Ext w2 w' ∧ p.1 ≤ l.length ∧ Own strE T.string w2.heap.size w' p.2 (idsOf (l.take p.1) ((confL l t).take p.1))) (fun p => [(3, .pointer (some ⟨bt, 0, none⟩)), (5, p.2), (9, va), (10, .int .i64 (l.length : Nat)), (11, .int .i64 p.1)]) (fun p => l.length - p.1) (0, .slice none 0 0) ⟨rfl, rfl, rfl, rfl, rfl, trivial⟩ ⟨Ext.refl _, by simp, by rw [id0]; exact Own.nil _ _ _⟩ ?_; rintro ⟨i, v5⟩ ρ w3 ⟨x3, hi3, o3⟩; simp only at hi3 o3; dsimp only))
  · have hil : i < l.length := by omega
    have hxs := (hsm _ (List.getElem_mem hil)).ins
    have s3 := x3.size
    refine st_elemR (d := some 13) (E := entR) (M := []) rfl rfl (n := i) (l := l) (SlR.ext sa (by exact fx)) rfl hil (fun ad cs r4 he => ?_)
    obtain ⟨iv2, ov2, rfl, q1, q2, q3⟩ := he
    have i1 := q1.one
    have j2 := q2.one
    have r3 := r2.ext x3
    have i3 := i2.ext x3
    have hle := idsOf_length (l.take i) ((confL l t).take i)
    have htl : (l.take i).length = i := by rw [List.length_take]; omega
    have x23 : Unit → Ext w2 w3 := fun _ => x3
    clear x3
    have tl : ∀ w1, Ext w3 w1 → Tells F.replace_Conflicts_1 [.pointer (some ⟨bt, 0, none⟩)] inR (fun cs => .agg cs.toArray) [] w1 l[i].tx.ins (fun a => t.ins.any fun b => decide (a.p = b.p)) := fun w1 x1 x _ w' cs x2 hc => by
      obtain ⟨bv, rfl, hw, _⟩ := hc
      exact conf1_spec (M := N) x bv iv ov w' hw.one (r3.ext (x1.trans x2)) (i3.ext (x1.trans x2)) hs
    repeat' (first|(first|refine go1 ?_|refine zg (fun _ _=>?_)|refine zi (fun _ _=>?_))|(refine zE (d' := 7) (fun _=>rfl) rfl rfl (by simp [entCs, i1, j2]; exact ⟨rfl, rfl, rfl, rfl, rfl⟩) (fun b6 w6 x6 a6 (r6 : Row w6 ⟨b6, 0, none⟩ (entCs l[i] iv2 ov2)) hb6=>?_))|(refine zC (d := some 19) rfl (idxIn_any (l := l[i].tx.ins) (M := []) (g := F.replace_Conflicts_1) (capl := [_]) (p := fun a => t.ins.any fun b => decide (a.p = b.p)) _ conf1_hb (SlR.ext q1 (by exact fx)) (by omega) (tl _ (by exact fx))) ?_; rintro _ w7 ⟨rfl, x7⟩)|(refine zM rfl (fun h => ?_) (fun h => ?_))|(refine zI (d := some 23) (cs := [.string l[i].id]) rfl (fun b9 w9 x9 a9 hb9 => ?_)))
    · have x39 : Ext w3 w9 := by exact fx
      have s39 := x39.size
      refine st_appendX (d := some 24) (E := strE) (v := v5) (l2 := [l[i].id]) rfl (o3.ext x39) (by omega) rfl rfl (sl_new a9 rfl) rfl rfl (by simp only [List.length_cons, List.length_nil]; omega) (fun v10 w10 o10 _ c10 hb10 => ?_)
      have hh : hitE t l[i] = true := h
      repeat' (first|refine go1 ?_|refine zg (fun _ _=>?_)|refine zi (fun _ _=>?_))
      exact ⟨(i + 1, v10), ⟨rfl, rfl, rfl, rfl, rfl, trivial⟩, ⟨(((x23 ()).trans x39).chg c10).mono (fun b hb => .inr (o3.base b hb)), by simp only; omega, by simp only; rw [confL_take hil, if_pos hh]; exact o10⟩, by simp only; omega⟩
    · have hh : ¬ hitE t l[i] = true := by
        have h2 : hitE t l[i] = false := h
        rw [h2]; simp
      exact ⟨(i + 1, v5), ⟨rfl, rfl, rfl, rfl, rfl, trivial⟩, ⟨Ext.trans (x23 ()) (by exact fx), by simp only; omega, by simp only; rw [confL_take hil, if_neg hh, List.append_nil]; exact o3.ext (by exact fx)⟩, by simp only; omega⟩
  · rw [List.take_of_length_le (by omega), List.take_of_length_le (by rw [← confL_len]; omega)] at o3
    exact x_ret rfl ⟨o3.lower s02, Ext.trans (x02 ()) (by exact fx)⟩
end Go.Proofs.YteggaepppahefaaGreat
end
section
namespace Go.Proofs.YteggaepppahefaaGreat
open Go Go.K
attribute [local irreducible] regK codeK retK KOp.wp K.Spec u32 leS vnS str zero32 sha2 encT idT sizeT checkT grantB idN stepR workL reachE findI

end Go.Proofs.YteggaepppahefaaGreat
end
section
namespace Go.Proofs.YteggaepppahefaaGreat
open Go Go.K
attribute [local irreducible] regK codeK retK KOp.wp K.Spec u32 leS vnS str zero32 sha2 encT idT sizeT checkT grantB idN stepR workL reachE findI dropG addG spendI spends

end Go.Proofs.YteggaepppahefaaGreat
end
section
namespace Go.K
open Go Go.Proofs.YteggaepppahefaaGreat
section
variable {l : List Ent} {t : Tx}
/-- All entries have a price. -/
abbrev Priced (l : List Ent) : Prop := ∀ x ∈ l, pricedB x.fee x.size = true
theorem enough_iff (hn : (l.map (·.id)).Nodup) (hp : Priced l) (hh : l.any (hitE t) = true) {f : Int} (hf : pricedB f (sizeT t : Nat) = true) : enoughL l t f = true ↔ needL l t ≤ f := by
  unfold enoughL needL
  rw [need_le, hh, Bool.and_eq_true, List.all_eq_true]
  simp only [Bool.not_true, Bool.false_or, decide_eq_true_eq, Bool.or_eq_true, Bool.not_eq_true']
  constructor
  · rintro ⟨h1, h2⟩
    refine ⟨h2, fun s hs => ?_⟩
    obtain ⟨x, hx, h3, rfl⟩ := mem_conf.1 hs
    rw [(get_mem hn hx).2]
    rcases h1 x hx with h | h
    · rw [h3] at h; cases h
    · exact (more_iff hf (hp x hx)).1 h
  · rintro ⟨h1, h2⟩
    refine ⟨fun x hx => ?_, h1⟩
    by_cases h3 : hitE t x = true
    · have := h2 x.id (mem_conf.2 ⟨x, hx, h3, rfl⟩)
      rw [(get_mem hn hx).2] at this
      exact .inr ((more_iff hf (hp x hx)).2 this)
    · exact .inl (by simpa using h3)
theorem feeOf_le {c : Nat} {l : List Ent} (hl : ∀ x ∈ l, 0 ≤ x.fee ∧ x.fee ≤ c) (m : List Bool) : 0 ≤ feeOf l m ∧ feeOf l m ≤ c * l.length := by
  induction l generalizing m with
  | nil => simp [feeOf]
  | cons x l ih => cases m with
    | nil => simp only [feeOf]; exact ⟨Int.le_refl _, Int.mul_nonneg (by omega) (by omega)⟩
    | cons b m =>
      have h1 := ih (fun y hy => hl y (List.mem_cons_of_mem _ hy)) m
      have h2 := hl x (by simp)
      simp only [feeOf, List.length_cons, Int.natCast_add, Int.mul_add]
      split <;> omega
theorem gone_bound {c : Nat} (hf : ∀ x ∈ l, 0 ≤ x.fee ∧ x.fee ≤ c) : 0 ≤ goneF l t ∧ goneF l t ≤ c * l.length := feeOf_le hf _
theorem needL_pos (hg : 0 ≤ goneF l t) (hs : 1 ≤ sizeT t) : 1 ≤ needL l t := by
  have h := need_base (l := l) (S := (sizeT t : Nat)) (n := goneF l t + (sizeT t : Nat)) (ids := idsOf l (confL l t))
  unfold needL
  omega
/-- What the program's rules say, is what the rules say. -/
theorem rules_need (hn : (l.map (·.id)).Nodup) (hp : Priced l) (hh : l.any (hitE t) = true) {f need : Int} (hf : pricedB f (sizeT t : Nat) = true) (hneed : need = if goodB (needL l t) = true then needL l t else 2100000000000001) (h0 : 0 ≤ needL l t) :
    (if f < need then (11 : Int) else 0) = if enoughL l t f = true then 0 else 11 := by
  have h1 := enough_iff hn hp hh hf
  have h2 := (pricedB_iff.1 hf).1
  by_cases h3 : needL l t ≤ f
  · rw [if_pos (h1.2 h3), if_neg]
    rw [hneed, if_pos ((goodB_iff _).2 (by omega))]; omega
  · rw [if_neg (fun h => h3 (h1.1 h)), if_pos]
    rw [hneed]
    split <;> omega
theorem may_ids : (idsOf l (confL l t)).any (fun s => !mayE l (getE l s)) = l.any fun x => hitE t x && !mayE l (getE l x.id) := by
  rw [Bool.eq_iff_iff, List.any_eq_true, List.any_eq_true]
  constructor
  · rintro ⟨s, hs, h⟩
    obtain ⟨x, hx, h3, rfl⟩ := mem_conf.1 hs
    exact ⟨x, hx, by rw [h3, h]; rfl⟩
  · rintro ⟨x, hx, h⟩
    rw [Bool.and_eq_true] at h
    exact ⟨x.id, mem_conf.2 ⟨x, hx, h.1, rfl⟩, h.2⟩
theorem may_conf (hn : (l.map (·.id)).Nodup) : (idsOf l (confL l t)).any (fun s => !mayE l (getE l s)) = l.any fun x => hitE t x && !mayE l x := by
  rw [may_ids, Bool.eq_iff_iff, List.any_eq_true, List.any_eq_true]
  constructor <;> rintro ⟨x, hx, h⟩ <;> exact ⟨x, hx, by rw [(get_mem hn hx).2] at *; exact h⟩
/-! What is allowed. -/
theorem rules_zero {f : Int} (h : rulesL l t f = 0) : checkT t = 0 ∧ goodB f = true ∧ (l.any (hitE t) = false ∨ (l.any (hitE t) = true ∧ l.any (fun x => hitE t x && !mayE l x) = false ∧ (idsOf l (evL l t)).length ≤ 100 ∧ freshP l t = false ∧ enoughL l t f = true)) := by
  unfold rulesL at h
  by_cases h1 : checkT t = 0
  · rw [if_neg (by simpa using h1)] at h
    by_cases h2 : goodB f = true
    · rw [if_neg (by simp [h2])] at h
      refine ⟨h1, h2, ?_⟩
      by_cases h3 : l.any (fun x => hitE t x && !mayE l x) = true
      · rw [if_pos h3] at h; omega
      · rw [if_neg h3] at h
        by_cases h4 : l.any (hitE t) = true
        · rw [if_neg (by simp [h4])] at h
          refine .inr ⟨h4, by simpa using h3, ?_⟩
          by_cases h5 : (idsOf l (evL l t)).length > 100
          · rw [if_pos h5] at h; omega
          · rw [if_neg h5] at h
            by_cases h6 : freshP l t = true
            · rw [if_pos h6] at h; omega
            · rw [if_neg h6] at h
              by_cases h7 : enoughL l t f = true
              · exact ⟨by omega, by simpa using h6, h7⟩
              · rw [if_neg h7] at h; omega
        · exact .inl (by simpa using h4)
    · rw [if_pos (by simpa using h2)] at h; omega
  · rw [if_pos h1] at h; exact absurd h h1
theorem rules_more (hn : (l.map (·.id)).Nodup) (hp : Priced l) {f m : Int} (hs : 1 ≤ sizeT t ∧ sizeT t ≤ 1000000) (h : rulesL l t f = 0) (hm : 0 ≤ m) (hg : goodB (f + m) = true) : rulesL l t (f + m) = 0 := by
  obtain ⟨h1, h2, h3⟩ := rules_zero h
  unfold rulesL
  rw [if_neg (by simpa using h1), if_neg (by simp [hg])]
  rcases h3 with h3 | ⟨h3, h4, h5, h6, h7⟩
  · rw [if_neg, if_pos h3]
    rw [List.any_eq_true]
    rintro ⟨x, hx, h⟩
    rw [List.any_eq_false] at h3
    rw [Bool.and_eq_true] at h
    exact h3 x hx h.1
  · rw [if_neg (by simp [h4]), if_neg (by simp [h3]), if_neg (by omega), if_neg (by simp [h6]), if_pos]
    have p1 : pricedB f (sizeT t : Nat) = true := pricedB_iff.2 ⟨(goodB_iff _).1 h2, by omega⟩
    have p2 : pricedB (f + m) (sizeT t : Nat) = true := pricedB_iff.2 ⟨(goodB_iff _).1 hg, by omega⟩
    rw [enough_iff hn hp h3 p1] at h7
    rw [enough_iff hn hp h3 p2]
    omega
theorem enough_cmp {f : Int} (h : enoughL l t f = true) {x : Ent} (hx : x ∈ l) (hh : hitE t x = true) : cmpR f (sizeT t : Nat) x.fee x.size > 0 ∧ goneF l t + (sizeT t : Nat) ≤ f := by
  unfold enoughL at h
  rw [Bool.and_eq_true, List.all_eq_true] at h
  have h1 := h.1 x hx
  rw [hh] at h1
  have h2 : l.any (hitE t) = true := List.any_eq_true.2 ⟨x, hx, hh⟩
  have h3 := h.2
  rw [h2] at h3
  simp only [Bool.not_true, Bool.false_or, decide_eq_true_eq] at h1 h3
  exact ⟨h1, h3⟩
/-! What may come hangs on nothing that goes. -/
theorem out_hangs (hn : (l.map (·.id)).Nodup) {x : Ent} (hx : x ∈ l) (h : hangs t x = true) : ∃ b ∈ t.ins, b.p.s = x.id ∧ outHas l b.p = true := by
  unfold hangs at h
  obtain ⟨b, hb, h1⟩ := List.any_eq_true.1 h
  rw [Bool.and_eq_true, decide_eq_true_eq, decide_eq_true_eq] at h1
  refine ⟨b, hb, h1.1, ?_⟩
  unfold outHas
  rw [h1.1, (get_mem hn hx).1, (get_mem hn hx).2]
  exact decide_eq_true h1.2
theorem fresh_parent (hn : (l.map (·.id)).Nodup) (hf : freshP l t = false) {x : Ent} (hx : x ∈ l) (h : hangs t x = true) : x.id ∉ idsOf l (evL l t) := by
  obtain ⟨b, hb, h1, h2⟩ := out_hangs hn hx h
  unfold freshP at hf
  rw [List.any_eq_false] at hf
  have h3 := hf b hb
  rw [h2, h1] at h3
  intro h4
  apply h3
  rw [inB_iff.2 h4]; rfl
theorem above_gone (hn : (l.map (·.id)).Nodup) (hf : freshP l t = false) {s : ByteArray} (hs : s ∈ idsOf l (aboveL l t)) : s ∉ idsOf l (evL l t) := by
  obtain ⟨j, hj, _, rfl⟩ := mem_mask.1 hs
  have h4 : aboveS l t j = true := (mem_reach hn hj).1 hs
  have key : ∃ h : j < l.length, l[j].id ∉ idsOf l (evL l t) := by
    refine stepR_least (p := fun i => ∃ h : i < l.length, l[i].id ∉ idsOf l (evL l t)) (fun i hi h => ⟨hi, ?_⟩) (fun k i hk hi h1 h2 => ⟨hi, ?_⟩) _ _ hj h4
    · rw [entD_get hi] at h
      exact fresh_parent hn hf (List.getElem_mem hi) h
    · obtain ⟨h3, h5⟩ := h1
      exact fun h6 => h5 (ev_closed hn hk hi (.one hk hi h2) h6)
  exact key.2
end
end Go.K
end
section
namespace Go.K
open Go
variable {l : List Ent}
end Go.K
end
section
namespace Go.Proofs.YteggaepppahefaaGreat
open Go Go.K
attribute [local irreducible] regK codeK retK KOp.wp K.Spec u32 leS vnS str zero32 sha2 encT idT sizeT checkT grantB idN stepR workL reachE findI dropG addG aboveL belowL inS idsOf feeD sizeD

theorem GrR.apart {w : World} {g : Nat} {M : List Nat} {l : List Ent} (h : GrR w g M l) : l.Pairwise fun x y => ∀ p, spends x p = true → spends y p = false := by
  obtain ⟨b1, vo, b2, m, sp, hP⟩ := h; exact hP.inv.apart
end Go.Proofs.YteggaepppahefaaGreat
end
section
namespace Go.K
open Go Go.Proofs.YteggaepppahefaaGreat
section
variable {l : List Ent} {t : Tx}
theorem has_iff {s : ByteArray} : hasE l s = true ↔ ∃ x ∈ l, x.id = s := by
  unfold hasE
  rw [List.any_eq_true]
  exact ⟨fun ⟨x, h1, h2⟩ => ⟨x, h1, of_decide_eq_true h2⟩, fun ⟨x, h1, h2⟩ => ⟨x, h1, decide_eq_true h2⟩⟩
theorem find_has {s : ByteArray} (h : ∃ x ∈ l, x.id = s) : 0 ≤ findI l s := by
  have h1 := findI_any (l := l) (s := s)
  obtain ⟨x, hx, e⟩ := h
  have h2 : l.any (fun x => decide (x.id = s)) = true := List.any_eq_true.2 ⟨x, hx, decide_eq_true e⟩
  rw [h2] at h1
  exact of_decide_eq_true h1
theorem drop_ok {s : ByteArray} (h : ∃ x ∈ l, x.id = s) : (dropG l s).2 = 0 := by
  have := find_has h
  unfold dropG
  rw [if_neg (by omega)]
theorem drop_stays {s : ByteArray} {x : Ent} (hx : x ∈ l) (h : x.id ≠ s) : x ∈ (dropG l s).1 := by
  induction l with
  | nil => cases hx
  | cons y l ih =>
    by_cases e : y.id = s
    · subst e
      rw [dropG_cons_eq]
      rcases List.mem_cons.1 hx with rfl | hx
      · exact absurd rfl h
      · exact hx
    · rw [dropG_cons_ne e]
      rcases List.mem_cons.1 hx with rfl | hx
      · exact List.mem_cons_self
      · exact List.mem_cons_of_mem _ (ih hx)
theorem dropAll_stays {ids : List ByteArray} : ∀ {l : List Ent} {x : Ent}, x ∈ l → x.id ∉ ids → x ∈ dropAll l ids := by
  induction ids with
  | nil => exact fun h _ => h
  | cons s ids ih =>
    intro l x hx h
    simp only [List.mem_cons, not_or] at h
    exact ih (l := (dropG l s).1) (drop_stays hx h.1) h.2
theorem ids_nodup (hn : (l.map (·.id)).Nodup) (m : List Bool) : (idsOf l m).Nodup := (idsOf_sub l m).nodup hn
theorem ids_mem {m : List Bool} {s : ByteArray} (h : s ∈ idsOf l m) : ∃ x ∈ l, x.id = s := by
  obtain ⟨i, hi, _, rfl⟩ := mem_mask.1 h
  exact ⟨l[i], List.getElem_mem hi, rfl⟩
theorem drop_each (hn : (l.map (·.id)).Nodup) {m : List Bool} {i : Nat} (hi : i < (idsOf l m).length) : (dropG (dropAll l ((idsOf l m).take i)) (idsOf l m)[i]).2 = 0 := by
  refine drop_ok ?_
  obtain ⟨x, hx, e⟩ := ids_mem (List.getElem_mem hi)
  refine ⟨x, dropAll_stays hx ?_, e⟩
  rw [e]
  intro h
  have hd := ids_nodup hn m
  obtain ⟨j, hj, e2⟩ := List.getElem_of_mem h
  rw [List.getElem_take] at e2
  rw [List.length_take] at hj
  exact List.pairwise_iff_getElem.1 hd j i (by omega) hi (by omega) e2
theorem hit_iff {x : Ent} : hitE t x = true ↔ ∃ b ∈ t.ins, spends x b.p = true := by
  unfold hitE spends
  simp only [List.any_eq_true, decide_eq_true_eq]
  constructor
  · rintro ⟨a, ha, b, hb, e⟩; exact ⟨b, hb, a, ha, e⟩
  · rintro ⟨b, hb, a, ha, e⟩; exact ⟨a, ha, b, hb, e⟩
theorem hit_self {x : Ent} (h : 0 < x.tx.ins.length) : hitE x.tx x = true := by
  rw [hit_iff]
  refine ⟨x.tx.ins[0], List.getElem_mem h, ?_⟩
  unfold spends
  exact List.any_eq_true.2 ⟨_, List.getElem_mem h, decide_eq_true rfl⟩
theorem comes_add (hn : (l.map (·.id)).Nodup) (hc : checkT t = 0) (hi : 0 < t.ins.length) (hg : grantB t = false) {f : Int} (hf : goodB f = true) :
    (addG (leftL l (evL l t)) t f).2 = 0 ∨ ((addG (leftL l (evL l t)) t f).2 = 7 ∧ hasE (leftL l (evL l t)) (idT t) = true ∧ (getE (leftL l (evL l t)) (idT t)).tx ≠ t) := by
  have none : ∀ x ∈ leftL l (evL l t), hitE t x = false := fun x hx => by
    rw [← Bool.not_eq_true]
    exact fun h => leftL_not l _ hn hx (conf_ev hn ((leftL_sub _ _).subset hx) h)
  unfold addG
  rw [if_neg (by simpa using hc), if_neg (by simp [hg]), if_neg (by simp [hf])]
  by_cases h7 : ((leftL l (evL l t)).any fun x => decide (x.id = idT t)) = true
  · rw [if_pos h7]
    refine .inr ⟨rfl, h7, fun e => ?_⟩
    have hm := (has_mem (l := leftL l (evL l t)) h7).1
    have h1 := none _ hm
    have h2 : hitE (getE (leftL l (evL l t)) (idT t)).tx (getE (leftL l (evL l t)) (idT t)) = true := hit_self (by rw [e]; exact hi)
    rw [e] at h2
    rw [h1] at h2
    cases h2
  · rw [if_neg h7]
    have h8 : (t.ins.any fun i => (leftL l (evL l t)).any fun x => spends x i.p) = false := by
      rw [List.any_eq_false]
      intro b hb h
      obtain ⟨x, hx, h2⟩ := List.any_eq_true.1 h
      have h3 := none x hx
      rw [hit_iff.2 ⟨b, hb, h2⟩] at h3
      cases h3
    rw [if_neg (by simp [h8])]
    exact .inl rfl
/-! What an entry itself conflicts with. -/
end
end Go.K
end
section
namespace Go.K
open Go Go.Proofs.YteggaepppahefaaGreat
def cntS (P : List ByteArray) (s : ByteArray) : Nat := (P.filter fun x => decide (x = s)).length
theorem cntS_snoc (P : List ByteArray) (x s : ByteArray) : cntS (P ++ [x]) s = cntS P s + if x = s then 1 else 0 := by
  unfold cntS
  rw [List.filter_append, List.length_append]
  by_cases h : x = s
  · rw [List.filter_cons_of_pos (by simpa using h), if_pos h]; rfl
  · rw [List.filter_cons_of_neg (by simpa using h), if_neg h]; rfl
theorem cntS_pos {P : List ByteArray} {s : ByteArray} : 0 < cntS P s ↔ s ∈ P := by
  unfold cntS
  rw [List.length_pos_iff_exists_mem]
  constructor
  · rintro ⟨x, hx⟩
    obtain ⟨h1, h2⟩ := List.mem_filter.1 hx
    rw [← of_decide_eq_true h2]; exact h1
  · exact fun h => ⟨s, List.mem_filter.2 ⟨h, decide_eq_true rfl⟩⟩
theorem cntS_le (P : List ByteArray) (s : ByteArray) : cntS P s ≤ P.length := List.length_filter_le _ _
/-- A map counts what a list has. -/
def Cnt (met : List (ByteArray × Nat)) (P : List ByteArray) : Prop := ∀ s, aget met s = if cntS P s = 0 then none else some (cntS P s)
theorem Cnt.nil : Cnt [] [] := fun s => rfl
theorem Cnt.add {met : List (ByteArray × Nat)} {P : List ByteArray} (h : Cnt met P) (s : ByteArray) : Cnt (aset met s (cntS P s + 1)) (P ++ [s]) := fun k => by
  rw [aget_set', cntS_snoc]
  by_cases e : s = k
  · subst e
    rw [if_pos rfl, if_pos rfl, if_neg (by omega)]
  · rw [if_neg e, if_neg e, h k, Nat.add_zero]
theorem Cnt.found {met : List (ByteArray × Nat)} {P : List ByteArray} (h : Cnt met P) {s : ByteArray} {c : Nat} (hc : aget met s = some c) : cntS P s = c ∧ 0 < c := by
  have := h s
  rw [hc] at this
  split at this
  · cases this
  · injection this with e; omega
theorem Cnt.none_ {met : List (ByteArray × Nat)} {P : List ByteArray} (h : Cnt met P) {s : ByteArray} (hc : aget met s = none) : cntS P s = 0 := by
  have := h s
  rw [hc] at this
  split at this
  · assumption
  · cases this
def metL (l : List Ent) (ids : List ByteArray) : List ByteArray := ids.flatMap fun s => idsOf l (belowL l s)
theorem metL_take {l : List Ent} {ids : List ByteArray} {i : Nat} (h : i < ids.length) : metL l (ids.take (i + 1)) = metL l (ids.take i) ++ idsOf l (belowL l ids[i]) := by
  unfold metL
  rw [List.take_succ_eq_append_getElem h, List.flatMap_append, List.flatMap_singleton]
theorem metL_len {l : List Ent} : ∀ (ids : List ByteArray), (metL l ids).length ≤ l.length * ids.length
  | [] => by simp [metL]
  | s :: ids => by
    have ih := metL_len (l := l) ids
    have h := (idsOf_sub l (belowL l s)).length_le
    rw [List.length_map] at h
    unfold metL at ih ⊢
    rw [List.flatMap_cons, List.length_append, List.length_cons, Nat.mul_add]
    omega
theorem ev_at {l : List Ent} {t : Tx} (hn : (l.map (·.id)).Nodup) {i : Nat} (hi : i < l.length) : ((evL l t)[i]'(by rw [← evL_len]; exact hi)) = true ↔ 0 < cntS (metL l (idsOf l (confL l t))) l[i].id := by
  rw [cntS_pos]
  have h1 := evI_iff (l := l) (t := t) hi (Nat.le_refl _)
  have e : (evI l t l.length)[i]? = some ((evL l t)[i]'(by rw [← evL_len]; exact hi)) := List.getElem?_eq_getElem _
  rw [e] at h1
  simp only [Option.some.injEq] at h1
  rw [h1]
  unfold metL
  rw [List.mem_flatMap]
  constructor
  · rintro ⟨j, hj, _, h2, h3⟩
    exact ⟨l[j].id, mem_conf.2 ⟨l[j], List.getElem_mem hj, h2, rfl⟩, (mem_below hn hi).2 h3⟩
  · rintro ⟨s, hs, h2⟩
    obtain ⟨x, hx, h3, rfl⟩ := mem_conf.1 hs
    obtain ⟨j, hj, rfl⟩ := List.getElem_of_mem hx
    exact ⟨j, hj, hj, h3, (mem_below hn hi).1 h2⟩
theorem evL_take {l : List Ent} {t : Tx} {i : Nat} (h : i < l.length) : idsOf (l.take (i + 1)) ((evL l t).take (i + 1)) = idsOf (l.take i) ((evL l t).take i) ++ if (evL l t)[i]'(by rw [← evL_len]; exact h) = true then [l[i].id] else [] := idsOf_take evL_len h
end Go.K
end
section
namespace Go.Proofs.YteggaepppahefaaGreat
open Go Go.K
attribute [local irreducible] regK codeK retK KOp.wp K.Spec u32 leS vnS str zero32 sha2 encT idT sizeT checkT grantB idN stepR workL reachE findI dropG addG aboveL belowL idsOf feeD sizeD cntS metL confL evL
set_option maxHeartbeats 4000000 in
theorem evicted_spec {g : Nat} {M N : List Nat} {l : List Ent} {cs : List Value} {t : Tx} (w : World) (hG : GrR w g M l) (hM : ∀ b ∈ M, b < w.heap.size) (ht : txR.rel N w cs t) (hs : t.ins.length ≤ 1000) (hl : l.length ≤ 1000) :
    K.Spec Tryz.prog F.replace_Evicted [.pointer (some ⟨g, 0, none⟩), .agg cs.toArray] w fun r w' => Own strE T.string w.heap.size w' r (idsOf l (evL l t)) ∧ Ext w w' := by
  have hnd := hG.nodup
  have ht0 := ht
  obtain ⟨iv, ov, rfl, hi, ho, hv⟩ := ht
  have id0 : idsOf (l.take 0) ((evL l t).take 0) = [] := by rw [List.take_zero, List.take_zero]; unfold idsOf; rfl
  obtain ⟨ids, hids⟩ : ∃ ids, ids = idsOf l (confL l t) := ⟨_, rfl⟩
  have hil : ids.length ≤ l.length := by rw [hids]; exact idsOf_le1 _ _
  have m0 : metL l (ids.take 0) = [] := by rw [List.take_zero]; unfold metL; rfl
  refine s_replace_Evicted rfl ?_
  unfold k_replace_Evicted
  refine ox ?_
  repeat' (first|(first|refine go1 ?_|refine zg (fun _ _=>?_)|refine zi (fun _ _=>?_))|(refine zD (d := some 3) rfl rfl (fun bt wt xt bt' (rt : Row wt ⟨bt, 0, none⟩ (txCs t iv ov)) hbt0=>?_))|(refine st_makeMap (d := some 13) (E := sK) (fv := fun n : Nat => Value.int .i64 (n : Nat)) (fun bm w1 x1 m1 hb1 => ?_); have lm := m1.lt)|(refine zC (d := some 16) rfl (conflicts_spec (M := M) (N := N) (l := l) (cs := txCs t iv ov) (t := t) _ (hG.ext (by exact fx)) (fun b hb => Nat.lt_of_lt_of_le (hM b hb) (Ext.size (by exact fx))) (R.ext ht0 (by exact fx)) hs hl) ?_; rw [← hids]; rintro vc w2 ⟨oc, x2⟩)|(refine st_len (d := some 17) (E := strE) (l := ids) rfl oc.sl ?_))
  have x02 : Ext w w2 := (xt.trans x1).trans x2
  have m2 := m1.ext x2
  have bcb := oc.base
  have hc2 : ∀ b ∈ blkOf vc, b ∉ [bm] := fun b hb h => by have := bcb b hb; simp at h; omega
  have hbm : w.heap.size ≤ bm := by have := xt.size; omega
  have lm2 : bm < w2.heap.size := Nat.lt_of_lt_of_le lm x2.size
  clear xt x1 x2 m1
  repeat' (first|(first|refine go1 ?_|refine zg (fun _ _=>?_)|refine zi (fun _ _=>?_))|(refine zL rfl (fun h => ?_) (fun h => ?_))|(refine c_loopV (fun (p : Nat × List (ByteArray × Nat)) w' => Ext w w' ∧ w2.heap.size ≤ w'.heap.size ∧ p.1 ≤ ids.length ∧ MapE sK (fun n : Nat => Value.int .i64 (n : Nat)) w' bm p.2 ∧ Cnt p.2 (metL l (ids.take p.1)) ∧ Own strE T.string w1.heap.size w' vc ids) (fun p => [(0, .pointer (some ⟨g, 0, none⟩)), (5, .map (some bm)), (16, vc), (17, .int .i64 (ids.length : Nat)), (18, .int .i64 p.1)]) (fun p => ids.length - p.1) (0, []) ⟨rfl, rfl, rfl, rfl, rfl, trivial⟩ ⟨x02, Nat.le_refl _, by simp, m2, by rw [m0]; exact Cnt.nil, oc⟩ ?_; clear x02 oc m2; rintro ⟨i, met⟩ ρ w3 ⟨x3, s3, hi3, m3, c3, o3⟩; simp only at hi3 m3 c3; dsimp only))
  · have hii : i < ids.length := by omega
    have hbl := idsOf_le1 l (belowL l ids[i])
    have hml := metL_len (l := l) (ids.take i)
    have hml2 : l.length * (ids.take i).length ≤ 1000 * 1000 := Nat.mul_le_mul hl (by rw [List.length_take]; omega)
    refine st_elemE (d := some 20) (E := strE) rfl rfl (n := i) (l := ids) o3.sl rfl hii (fun ad r5 => ?_)
    have r5 : Row w3 ad [Value.string ids[i]] := r5
    repeat' (first|(first|refine go1 ?_|refine zg (fun _ _=>?_)|refine zi (fun _ _=>?_))|(refine zC (d := some 24) rfl (pbelow_spec (M := M) (l := l) ids[i] _ (hG.ext (by exact fx)) (fun b hb => Nat.lt_of_lt_of_le (hM b hb) (Ext.size (by exact fx))) hl) ?_; rintro vb w4 ⟨ob, x4⟩)|(refine st_len (d := some 25) (E := strE) (l := idsOf l (belowL l ids[i])) rfl ob.sl ?_))
    obtain ⟨bs, hbs⟩ : ∃ bs, bs = idsOf l (belowL l ids[i]) := ⟨_, rfl⟩
    rw [← hbs] at ob hbl ⊢
    have x04 : Ext w w4 := x3.trans x4
    have s4 := x4.size
    have bbb := ob.base
    have hb2 : ∀ b ∈ blkOf vb, b ∉ [bm] := fun b hb h => by have := bbb b hb; simp at h; omega
    have t0 : metL l (ids.take i) ++ bs.take 0 = metL l (ids.take i) := by rw [List.take_zero, List.append_nil]
    have m4 := m3.ext x4
    have o4 := o3.ext x4
    clear x3 x4 m3 o3 r5
    repeat' (first|(first|refine go1 ?_|refine zg (fun _ _=>?_)|refine zi (fun _ _=>?_))|(refine zL rfl (fun h => ?_) (fun h => ?_))|(refine c_loopV (fun (p : Nat × List (ByteArray × Nat)) w' => Ext w w' ∧ w2.heap.size ≤ w'.heap.size ∧ p.1 ≤ bs.length ∧ MapE sK (fun n : Nat => Value.int .i64 (n : Nat)) w' bm p.2 ∧ Cnt p.2 (metL l (ids.take i) ++ bs.take p.1) ∧ Own strE T.string w1.heap.size w' vc ids ∧ Own strE T.string w3.heap.size w' vb bs) (fun p => [(0, .pointer (some ⟨g, 0, none⟩)), (5, .map (some bm)), (16, vc), (17, .int .i64 (ids.length : Nat)), (18, .int .i64 i), (24, vb), (25, .int .i64 (bs.length : Nat)), (26, .int .i64 p.1)]) (fun p => bs.length - p.1) (0, met) ⟨rfl, rfl, rfl, rfl, rfl, rfl, rfl, rfl, trivial⟩ ⟨x04, by omega, by simp, m4, by rw [t0]; exact c3, o4, ob⟩ ?_; clear x04 m4 o4 ob; rintro ⟨j, met2⟩ ρ2 w5 ⟨x5, s5, hj5, m5, c5, o5, ob5⟩; simp only at hj5 m5 c5; dsimp only))
    · have hjl : j < bs.length := by omega
      refine st_elemE (d := some 28) (E := strE) rfl rfl (n := j) (l := bs) ob5.sl rfl hjl (fun ad r6 => ?_)
      have r6 : Row w5 ad [Value.string bs[j]] := r6
      have hadd := c5.add bs[j]
      have htk : metL l (ids.take i) ++ bs.take (j + 1) = metL l (ids.take i) ++ bs.take j ++ [bs[j]] := by rw [List.take_succ_eq_append_getElem hjl, List.append_assoc]
      have hcl := cntS_le (metL l (ids.take i) ++ bs.take j) bs[j]
      rw [List.length_append, List.length_take] at hcl
      cases hag : aget met2 bs[j] with
      | none =>
        have hcz := c5.none_ hag
        rw [hcz] at hadd
        repeat' (first|(first|refine go1 ?_|refine zg (fun _ _=>?_)|refine zi (fun _ _=>?_))|(refine st_lookup (d := some 32) (E := sK) (fv := fun n : Nat => Value.int .i64 (n : Nat)) (k := bs[j]) rfl rfl m5 rfl rfl (fun c hcc => by rw [hag] at hcc; cases hcc) (fun hcn => ?_))|(refine st_mapUpdate (d := none) (E := sK) (fv := fun n : Nat => Value.int .i64 (n : Nat)) (k := bs[j]) (v := 1) rfl rfl rfl m5 rfl rfl (fun w6 c6 m6 => ?_)))
        refine ⟨(j + 1, _), ⟨rfl, rfl, rfl, rfl, rfl, rfl, rfl, rfl, trivial⟩, ⟨(x5.chg c6).mono (by intro b hb; simp at hb; subst hb; exact .inr hbm), by have := c6.size; omega, by simp only; omega, m6, by rw [htk]; exact hadd, o5.chg c6 hc2, ob5.chg c6 hb2⟩, by simp only; omega⟩
      | some c =>
        have hcz := (c5.found hag).1
        rw [hcz] at hadd hcl
        repeat' (first|(first|refine go1 ?_|refine zg (fun _ _=>?_)|refine zi (fun _ _=>?_))|(refine st_lookup (d := some 32) (E := sK) (fv := fun n : Nat => Value.int .i64 (n : Nat)) (k := bs[j]) rfl rfl m5 rfl rfl (fun c' hcc => ?_) (fun hcn => by rw [hag] at hcn; cases hcn); rw [hag] at hcc; injection hcc with hcc; subst hcc)|(refine st_mapUpdate (d := none) (E := sK) (fv := fun n : Nat => Value.int .i64 (n : Nat)) (k := bs[j]) (v := c + 1) rfl rfl rfl m5 rfl rfl (fun w6 c6 m6 => ?_)))
        refine ⟨(j + 1, _), ⟨rfl, rfl, rfl, rfl, rfl, rfl, rfl, rfl, trivial⟩, ⟨(x5.chg c6).mono (by intro b hb; simp at hb; subst hb; exact .inr hbm), by have := c6.size; omega, by simp only; omega, m6, by rw [htk]; exact hadd, o5.chg c6 hc2, ob5.chg c6 hb2⟩, by simp only; omega⟩
    · rw [List.take_of_length_le (l := bs) (by omega)] at c5
      exact ⟨(i + 1, met2), ⟨rfl, rfl, rfl, rfl, rfl, trivial⟩, ⟨x5, s5, by simp only; omega, m5, by rw [metL_take hii, ← hbs]; exact c5, o5⟩, by simp only; omega⟩
  · rw [List.take_of_length_le (l := ids) (by omega)] at c3
    have s03 : Unit → Ext w w3 := fun _ => x3
    repeat' (first|(first|refine go1 ?_|refine zg (fun _ _=>?_)|refine zi (fun _ _=>?_))|(refine zC (d := some 37) rfl (all_spec (M := M) (l := l) _ (hG.ext x3) (fun b hb => Nat.lt_of_lt_of_le (hM b hb) x3.size) (by omega)) ?_; rintro va w4 ⟨oa, x4⟩; have sa : SlR entR [] w4 va l := (oa.sub (M' := []) (by simp)).sl (by simp); have m4 := m3.ext x4; have x34 := x3.trans x4; clear x3)|(refine zG (d := some 38) (E := entR) (M := []) (l := l) rfl (SlR.ext sa (by exact fx)) ?_)|(refine zL rfl (fun h => ?_) (fun h => ?_))|(refine c_loopV (fun (p : Nat × Value) w' => Ext w4 w' ∧ p.1 ≤ l.length ∧ Own strE T.string w4.heap.size w' p.2 (idsOf (l.take p.1) ((evL l t).take p.1))) (fun p => [(5, .map (some bm)), (10, p.2), (37, va), (38, .int .i64 (l.length : Nat)), (39, .int .i64 p.1)]) (fun p => l.length - p.1) (0, .slice none 0 0) ⟨rfl, rfl, rfl, rfl, rfl, trivial⟩ ⟨Ext.refl _, by simp, by rw [id0]; exact Own.nil _ _ _⟩ ?_; rintro ⟨i, v5⟩ ρ w5 ⟨x5, hi5, o5⟩; simp only at hi5 o5; dsimp only))
    · have hil2 : i < l.length := by omega
      have hle := idsOf_length (l.take i) ((evL l t).take i)
      have htl : (l.take i).length = i := by rw [List.length_take]; omega
      have hev := ev_at (t := t) hnd hil2
      rw [← hids] at hev
      have s5 := x5.size
      refine st_elemR (d := some 41) (E := entR) (M := []) rfl rfl (n := i) (l := l) (SlR.ext sa (by exact fx)) rfl hil2 (fun ad cs r4 he => ?_)
      obtain ⟨iv2, ov2, rfl, q1, q2, q3⟩ := he
      have i1 := q1.one
      have j2 := q2.one
      repeat' (first|(first|refine go1 ?_|refine zg (fun _ _=>?_)|refine zi (fun _ _=>?_))|(refine zE (d' := 12) (fun _=>rfl) rfl rfl (by simp [entCs, i1, j2]; exact ⟨rfl, rfl, rfl, rfl, rfl⟩) (fun b6 w6 x6 a6 (r6 : Row w6 ⟨b6, 0, none⟩ (entCs l[i] iv2 ov2)) hb6=>?_))|(refine st_lookup (d := some 46) (E := sK) (fv := fun n : Nat => Value.int .i64 (n : Nat)) (k := l[i].id) rfl rfl (MapE.ext (by exact fx) m4) rfl rfl (fun c hcc => ?_) (fun hcn => ?_))|(have hcz := c3.found hcc; rw [hcz.1] at hev; refine zL (p := ((c : Nat) : Int) > 0) rfl (fun h9 => ?_) (fun h9 => absurd h9 (by omega)))|(have hcz := c3.none_ hcn; rw [hcz] at hev; refine zL (p := (0 : Int) > 0) rfl (fun h9 => absurd h9 (by omega)) (fun h9 => ?_))|(refine zI (d := some 51) (cs := [.string l[i].id]) rfl (fun b9 w9 x9 a9 hb9 => ?_)))
      · have x59 : Ext w5 w9 := by exact fx
        have s59 := x59.size
        have hh : (evL l t)[i]'(by rw [← evL_len]; exact hil2) = true := hev.2 (by omega)
        refine st_appendX (d := some 52) (E := strE) (v := v5) (l2 := [l[i].id]) rfl (o5.ext x59) (by omega) rfl rfl (sl_new a9 rfl) rfl rfl (by simp only [List.length_cons, List.length_nil]; omega) (fun v10 w10 o10 _ c10 hb10 => ?_)
        repeat' (first|refine go1 ?_|refine zg (fun _ _=>?_)|refine zi (fun _ _=>?_))
        exact ⟨(i + 1, v10), ⟨rfl, rfl, rfl, rfl, rfl, trivial⟩, ⟨((x5.trans x59).chg c10).mono (fun b hb => .inr (o5.base b hb)), by simp only; omega, by simp only; rw [evL_take hil2, if_pos hh]; exact o10⟩, by simp only; omega⟩
      · have hh : ¬ (evL l t)[i]'(by rw [← evL_len]; exact hil2) = true := fun h => by have := hev.1 h; have := c3.none_ hcn; omega
        exact ⟨(i + 1, v5), ⟨rfl, rfl, rfl, rfl, rfl, trivial⟩, ⟨by exact fx, by simp only; omega, by simp only; rw [evL_take hil2, if_neg hh, List.append_nil]; exact o5.ext (by exact fx)⟩, by simp only; omega⟩
    · rw [List.take_of_length_le (by omega), List.take_of_length_le (by rw [← evL_len]; omega)] at o5
      exact x_ret rfl ⟨o5.lower x34.size, x34.trans x5⟩
end Go.Proofs.YteggaepppahefaaGreat
end
