/- The walk of TrimKeeps. -/
import Derived.Test.YteggaepppahefaaGreatE49
set_option linter.unusedVariables false
set_option linter.unusedSimpArgs false
section
namespace Go.Proofs.YteggaepppahefaaGreat
open Go Go.K
theorem inS_no {ids : List ByteArray} {s : ByteArray} (h : s ∉ ids) : inS ids s = false := by
  rw [← Bool.not_eq_true, inS_iff]; exact h
theorem sizes_le {l : List Ent} (hE : ∀ x ∈ l, EntOk x) : ∀ x ∈ l, 0 ≤ x.size ∧ x.size ≤ (100000000000 : Nat) := fun x hx => (entOk_fit (hE x hx)).2
theorem ent_priced {x : Ent} (h : EntOk x) : pricedB x.fee x.size = true := by
  unfold pricedB
  rw [h.fee, Bool.true_and, h.size]
  have := (sz_of_check (chk_sm h.check) h.check).sizeM
  exact decide_eq_true (by omega)
attribute [local irreducible] regK codeK retK KOp.wp K.Spec u32 leS vnS str zero32 sha2 encT idT sizeT checkT grantB idN stepR workL reachE findI dropG addG trimL scoreL scoreP worstI wS inS sizeL stayL aboveL belowL idsOf
theorem containsB19 {v : Value} {l : List ByteArray} (a : ByteArray) (w : World) (hs : SlE strE w v l) (hn : l.length ≤ 1000000) : K.Spec Tryz.prog F.slices_Contains_L_string_string [v, .string a] w fun r w' => r = .bool (inS l a) ∧ w' = w :=
  spec_mono (containsS_spec a w hs (by omega)) fun r w' ⟨h1, h2⟩ => ⟨by rw [h1]; unfold inS; rfl, h2⟩
set_option maxHeartbeats 4000000 in
theorem tkeeps_law {v : Value} {sc : List Small} (x : Int) (hx0 : 0 ≤ x ∧ x ≤ 65535) (w : World) (hs : SlR smR [] w v sc) : K.Spec Tryz.prog F.kedgelaw19_TrimKeeps [v, .int .u16 x] w fun r w' => r = .bool true ∧ Ext w w' := by
  obtain ⟨X, rfl⟩ : ∃ X : Nat, x = (X : Nat) := ⟨x.toNat, by omega⟩
  refine s_kedgelaw19_TrimKeeps rfl ?_
  unfold k_kedgelaw19_TrimKeeps
  refine ox ?_
  repeat' (first|(refine st_fixV (d := some 33) (.int .i64 (X : Nat)) rfl (congrArg (fun n => some (Value.int .i64 n)) (IntWalk.i64_in _ (by omega))) ?_)|(refine st_rem (d := some 34) (n := X) (m := 1500) rfl rfl (by decide) ?_)|(first|refine go1 ?_|refine zg (fun _ _=>?_)|refine zi (fun _ _=>?_))|(refine zC (d := some 27) rfl (filled19_spec 12 _ (SlR.ext hs (by exact fx)) (by decide)) ?_; rintro _ w2 ⟨g, M, u, l, rfl, G2, u2, hl, x2⟩; have hM2 := G2.lt; have hB2 := G2.base)|(refine zC (d := some 31) rfl (gcopy_u (M := M) (l := l) _ (G2.r.ext (by exact fx)) (fun b hb => Nat.lt_of_lt_of_le (hM2 b hb) (Ext.size (by exact fx))) (by omega)) ?_; rintro _ w3 ⟨hg, Mc, rfl, H3, x3⟩))
  have hnd := G2.nodup
  have hok := G2.ok
  have hBc := H3.gr.base
  have hMc := H3.gr.lt
  have G3 : GrU w3 w.heap.size g M Mc l := (GrU.of G2).more x3 (fun b hb => .inr (hBc b hb))
  obtain ⟨n, hn⟩ : ∃ n : Int, n = ((X % 1500 : Nat) : Int) := ⟨_, rfl⟩
  have hn0 : 0 ≤ n := by omega
  rw [← hn]
  have s3 := x3.size
  clear G2 u2
  repeat' (first|refine go1 ?_|refine zg (fun _ _=>?_)|refine zi (fun _ _=>?_))
  refine zC (d := some 38) rfl (trim_spec (U := Mc) (M := M) (l := l) n _ G3 hMc (by omega)) ?_
  rintro _ w4 ⟨M4, v4, rfl, G4, o4, c4, hb4, hd4⟩
  have H4 := H3.chg c4 hb4
  have hl4 : (trimL n l).1.length ≤ 12 := Nat.le_trans (trim_sub hnd).length_le hl
  have i4 := trim_ids_len (m := n) hnd
  have e4 : SlE strE w4 v4 (trimL n l).2.1 := o4.sl
  have G4 := G4.gr
  have H4 := H4.gr
  have hM4 := G4.lt
  have hN4 := H4.lt
  have C4 : Ext w w4 := ((x2.trans x3).chg c4).mono (fun b hb => .inr (hB2 b hb))
  have hfit := sizes_le hok
  have hsm : ∀ x ∈ l, x.tx.Sm := fun x hx => chk_sm (hok x hx).check
  have h00 : sizeL (l.take 0) = 0 := by rw [List.take_zero]; unfold sizeL; rfl
  have h01 : sizeL (stayL (trimL n l).1 (l.take 0)) = 0 := by rw [List.take_zero]; unfold stayL sizeL; rfl
  have hM4x : ∀ {w'}, Ext w4 w' → ∀ b ∈ M4, b < w'.heap.size := fun x b hb => Nat.lt_of_lt_of_le (hM4 b hb) x.size
  have hN4x : ∀ {w'}, Ext w4 w' → ∀ b ∈ Mc, b < w'.heap.size := fun x b hb => Nat.lt_of_lt_of_le (hN4 b hb) x.size
  clear G3 H3 c4 o4 x3 x2
  repeat' (first|(first|refine go1 ?_|refine zg (fun _ _=>?_)|refine zi (fun _ _=>?_))|(refine zC (d := some 42) rfl (all_spec (M := Mc) (l := l) _ (H4.r.ext (by exact fx)) (hN4x (by exact fx)) (by omega)) ?_; rintro va w5 ⟨oa, x5⟩; have sa : SlR entR [] w5 va l := (oa.sub (M' := []) (by simp)).sl (by simp))|(refine zG (d := some 43) (E := entR) (M := []) (l := l) rfl (SlR.ext sa (by exact fx)) ?_)|(refine zL rfl (fun h => ?_) (fun h => ?_))|(refine c_loopV (fun (i : Nat) w' => Ext w5 w' ∧ i ≤ l.length) (fun i => [(5, .pointer (some ⟨g, 0, none⟩)), (7, .pointer (some ⟨hg, 0, none⟩)), (8, .int .i64 n), (9, v4), (10, .int .i64 (trimL n l).2.2), (11, .int .i64 (sizeL (stayL (trimL n l).1 (l.take i)))), (12, .int .i64 (sizeL (l.take i))), (42, va), (43, .int .i64 (l.length : Nat)), (44, .int .i64 i)]) (fun i => l.length - i) 0 ⟨rfl, rfl, rfl, rfl, rfl, by rw [h01]; rfl, by rw [h00]; rfl, rfl, rfl, rfl, trivial⟩ ⟨Ext.refl _, Nat.zero_le _⟩ ?_; rintro i ρ w6 ⟨x6, hi⟩))
  · have hil : i < l.length := by omega
    have b1 := sizeL_bound (c := 100000000000) (l := l.take i) (fun x hx => hfit x (List.mem_of_mem_take hx))
    have b2 : (l.take i).length ≤ l.length := by rw [List.length_take]; omega
    have b3 := hfit _ (List.getElem_mem hil)
    have b4 := sizeL_bound (c := 100000000000) (l := stayL (trimL n l).1 (l.take i)) (fun x hx => hfit x (by unfold stayL at hx; exact List.mem_of_mem_take (List.mem_filter.1 hx).1))
    have b5 : (stayL (trimL n l).1 (l.take i)).length ≤ l.length := by unfold stayL; exact Nat.le_trans (List.length_filter_le _ _) b2
    have hst := stay_take (a := (trimL n l).1) hil
    have hhas := trim_has (m := n) hnd (List.getElem_mem hil)
    have habo := idsOf_le1 l (aboveL l l[i].tx)
    refine st_elemR (d := some 46) (E := entR) (M := []) rfl rfl (n := i) (l := l) (sa.ext x6) rfl hil (fun ad cs r4 he => ?_)
    obtain ⟨iv, ov, rfl, q1, q2, q3⟩ := he
    have i1 := q1.one
    have i2 := q2.one
    have x46 : Unit → Ext w4 w6 := fun _ => x5.trans x6
    have e6 : SlE strE w6 v4 (trimL n l).2.1 := e4.ext (x46 ())
    have G6 := G4.ext (x46 ())
    have H6 := H4.ext (x46 ())
    have hM6 : ∀ {w'}, Ext w6 w' → ∀ b ∈ M4, b < w'.heap.size := fun x b hb => hM4x ((x46 ()).trans x) b hb
    have hN6 : ∀ {w'}, Ext w6 w' → ∀ b ∈ Mc, b < w'.heap.size := fun x b hb => hN4x ((x46 ()).trans x) b hb
    have x56 : Unit → Ext w5 w6 := fun _ => x6
    clear x6 x5
    have key : inS (trimL n l).2.1 l[i].id = !hasE (trimL n l).1 l[i].id := by
      cases h9 : hasE (trimL n l).1 l[i].id with
      | true => exact inS_no (hhas.1 h9)
      | false =>
        refine inS_iff.2 ?_
        apply Classical.byContradiction
        intro h8
        rw [hhas.2 h8] at h9; cases h9
    have hin : hasE (trimL n l).1 l[i].id = true → ∀ y ∈ idsOf l (aboveL l l[i].tx), hasE (trimL n l).1 y = true := fun h9 y hy => by
      have hA : l[i] ∈ (trimL n l).1 := by
        rcases trim_or (m := n) hnd (List.getElem_mem hil) with ⟨h1, _⟩ | ⟨_, h1⟩
        · exact h1
        · exact absurd h1 (hhas.1 h9)
      obtain ⟨z, hz, rfl⟩ := trim_above hnd hA hy
      exact List.any_eq_true.2 ⟨z, hz, decide_eq_true rfl⟩
    have hsi := (hsm _ (List.getElem_mem hil)).ins
    obtain ⟨B, hB⟩ : ∃ B, hasE (trimL n l).1 l[i].id = B := ⟨_, rfl⟩
    rw [hB] at key
    cases B with
    | true =>
      rw [if_pos hB] at hst
      have hin := hin hB
      repeat' (first|(first|refine go1 ?_|refine zg (fun _ _=>?_)|refine zi (fun _ _=>?_))|(refine zE (d' := 14) (fun _=>rfl) rfl rfl (by simp [entCs, i1, i2]; exact ⟨rfl, rfl, rfl, rfl, rfl⟩) (fun b7 w7 x7 a7 (r7 : Row w7 ⟨b7, 0, none⟩ (entCs l[i] iv ov)) hb7=>?_))|(refine zC (d := some 56) rfl (get_spec (M := M4) (l := (trimL n l).1) l[i].id _ (G6.r.ext (by exact fx)) (hM6 (by exact fx))) ?_; rintro _ w8 ⟨ds, rfl, e8, x8⟩; rw [hB]; obtain ⟨iv8, ov8, rfl, o1, o2, o3⟩ := e8; have j1 := o1.one; have j2 := o2.one)|(refine zE (d' := 15) (fun _=>rfl) rfl rfl (by simp [entCs, j1, j2]; exact ⟨rfl, rfl, rfl, rfl, rfl⟩) (fun b9 w9 x9 a9 r9 hb9=>?_))|(refine zC (d := some 63) rfl (containsB19 (l := (trimL n l).2.1) l[i].id _ (SlE.ext (by exact fx) e6) (by omega)) ?_; rintro _ _ ⟨rfl, rfl⟩; rw [key])|(refine zC (d := some 73) rfl (pabove_spec (M := Mc) (N := []) (l := l) (cs := txCs l[i].tx iv ov) (t := l[i].tx) _ (H6.r.ext (by exact fx)) (hN6 (by exact fx)) ⟨iv, ov, rfl, SlR.ext q1 (by exact fx), SlR.ext q2 (by exact fx), q3.1, q3.2.1⟩ hsi (by omega)) ?_; rintro vb w10 ⟨ob, x10⟩; have sb := ob.sl; have x610 : Unit → Ext w6 w10 := (fun _ => by exact fx))|(refine st_len (d := some 74) (E := strE) (l := idsOf l (aboveL l l[i].tx)) rfl (SlE.ext (by exact fx) sb) ?_)|(refine zL rfl (fun h => ?_) (fun h => ?_))|(refine c_loopV (fun (k : Nat) w' => Ext w10 w' ∧ k ≤ (idsOf l (aboveL l l[i].tx)).length) (fun k => [(5, .pointer (some ⟨g, 0, none⟩)), (7, .pointer (some ⟨hg, 0, none⟩)), (8, .int .i64 n), (9, v4), (10, .int .i64 (trimL n l).2.2), (11, .int .i64 (sizeL (stayL (trimL n l).1 (l.take i)) + l[i].size)), (12, .int .i64 (sizeL (l.take i) + l[i].size)), (42, va), (43, .int .i64 (l.length : Nat)), (44, .int .i64 i), (73, vb), (74, .int .i64 ((idsOf l (aboveL l l[i].tx)).length : Nat)), (75, .int .i64 k)]) (fun k => (idsOf l (aboveL l l[i].tx)).length - k) 0 ⟨rfl, rfl, rfl, rfl, rfl, rfl, rfl, rfl, rfl, rfl, rfl, rfl, rfl, trivial⟩ ⟨Ext.refl _, Nat.zero_le _⟩ ?_; rintro k ρ7 w11 ⟨x11, hk⟩)|(have hkl : k < (idsOf l (aboveL l l[i].tx)).length := (by omega); refine st_elemE (d := some 77) (E := strE) rfl rfl (n := k) (l := idsOf l (aboveL l l[i].tx)) (SlE.ext (by exact fx) sb) rfl hkl (fun ad r12 => ?_); have r12 : Row _ ad [Value.string (idsOf l (aboveL l l[i].tx))[k]] := r12; have hk9 := hin _ (List.getElem_mem hkl))|(refine zC (d := some 82) rfl (get_spec (M := M4) (l := (trimL n l).1) (idsOf l (aboveL l l[i].tx))[k] _ (Gr.r (Gr.ext G6 (Ext.trans (x610 ()) (by exact fx)))) (hM6 (Ext.trans (x610 ()) (by exact fx)))) ?_; rintro _ w13 ⟨ds, rfl, e13, x13⟩; rw [hk9]; obtain ⟨iv13, ov13, rfl, p1, p2, p3⟩ := e13; have k1 := p1.one; have k2 := p2.one)|(refine zE (d' := 19) (fun _=>rfl) rfl rfl (by simp [entCs, k1, k2]; exact ⟨rfl, rfl, rfl, rfl, rfl⟩) (fun b14 w14 x14 a14 r14 hb14=>?_)))
      · exact ⟨k + 1, ⟨rfl, rfl, rfl, rfl, rfl, rfl, rfl, rfl, rfl, rfl, rfl, rfl, rfl, trivial⟩, ⟨by exact fx, by omega⟩, by omega⟩
      · refine ⟨i + 1, ⟨rfl, rfl, rfl, rfl, rfl, congrArg (Value.int .i64) hst.symm, congrArg (Value.int .i64) (sizeL_take hil).symm, rfl, rfl, rfl, trivial⟩, ⟨(x56 ()).trans ((x610 ()).trans x11), by omega⟩, by omega⟩
    | false =>
      rw [if_neg (by rw [hB]; simp)] at hst
      repeat' (first|(first|refine go1 ?_|refine zg (fun _ _=>?_)|refine zi (fun _ _=>?_))|(refine zE (d' := 14) (fun _=>rfl) rfl rfl (by simp [entCs, i1, i2]; exact ⟨rfl, rfl, rfl, rfl, rfl⟩) (fun b7 w7 x7 a7 (r7 : Row w7 ⟨b7, 0, none⟩ (entCs l[i] iv ov)) hb7=>?_))|(refine zC (d := some 56) rfl (get_spec (M := M4) (l := (trimL n l).1) l[i].id _ (G6.r.ext (by exact fx)) (hM6 (by exact fx))) ?_; rintro _ w8 ⟨ds, rfl, e8, x8⟩; rw [hB]; obtain ⟨iv8, ov8, rfl, o1, o2, o3⟩ := e8; have j1 := o1.one; have j2 := o2.one)|(refine zE (d' := 15) (fun _=>rfl) rfl rfl (by simp [entCs, j1, j2]; exact ⟨rfl, rfl, rfl, rfl, rfl⟩) (fun b9 w9 x9 a9 r9 hb9=>?_))|(refine zC (d := some 63) rfl (containsB19 (l := (trimL n l).2.1) l[i].id _ (SlE.ext (by exact fx) e6) (by omega)) ?_; rintro _ _ ⟨rfl, rfl⟩; rw [key]))
      exact ⟨i + 1, ⟨rfl, rfl, rfl, rfl, rfl, congrArg (Value.int .i64) (by rw [hst]; omega), congrArg (Value.int .i64) (sizeL_take hil).symm, rfl, rfl, rfl, trivial⟩, ⟨Ext.trans (x56 ()) (by exact fx), by omega⟩, by omega⟩
  · have ei : i = l.length := by omega
    subst ei
    rw [List.take_of_length_le (Nat.le_refl _)]
    have hstay : stayL (trimL n l).1 l = (trimL n l).1 := stay_all (trim_sub hnd) hnd
    rw [hstay]
    have x46 : Ext w4 w6 := x5.trans x6
    have x06 : Ext w w6 := C4.trans x46
    have hA : sizeL (trimL n l).1 ≤ n := by
      rcases trim_end (m := n) hnd with h1 | h1
      · rw [List.length_eq_zero_iff.1 h1]
        unfold sizeL; simpa using hn0
      · exact h1
    have e6 := e4.ext x46
    have H6 := H4.ext x46
    have hN6 : ∀ {w'}, Ext w6 w' → ∀ b ∈ Mc, b < w'.heap.size := fun x b hb => hN4x (x46.trans x) b hb
    have hpos := trim_pos (m := n) hnd
    have hrate := (trim_rate (m := n) hnd).2
    clear x5 x6 x46 C4 sa e4
    by_cases hs0 : l.length = 0 ∨ sizeL l ≤ n
    · have hle : sizeL l ≤ n := by
        rcases hs0 with h1 | h1
        · rw [List.length_eq_zero_iff.1 h1]
          unfold sizeL; simpa using hn0
        · exact h1
      have hstop := trimL_stop hs0
      rw [hstop] at e6 ⊢
      repeat' (first|(refine st_fixV (d := some 104) (.bool false) rfl rfl ?_)|(refine st_fixV (d := some 107) (.bool false) rfl rfl ?_)|(refine st_fixV (d := some 108) (.bool false) rfl rfl ?_)|(refine st_fixV (d := some 99) (.bool false) rfl rfl ?_)|(first|refine go1 ?_|refine zg (fun _ _=>?_)|refine zi (fun _ _=>?_))|(refine zJ (p := sizeL l > n) rfl (fun h => absurd h (by omega)) (fun _ => ?_))|(refine zJ (p := sizeL l ≤ n) rfl (fun _ => ?_) (fun h => absurd hle h))|(refine st_len (E := strE) (l := []) rfl (SlE.ext (by exact fx) e6) ?_)|(refine zC (d := some 113) rfl (wakes19_spec _) ?_; rintro _ w9 ⟨rfl, x9⟩))
      exact x_ret rfl ⟨rfl, by exact fx⟩
    · have hnl : ¬ sizeL l ≤ n := fun h => hs0 (.inr h)
      have h0 : 0 < l.length := by omega
      obtain ⟨hw1, hw2⟩ := trim_went hnd hs0
      have hq : 0 < (trimL n l).2.1.length := List.length_pos_of_mem hw1
      have hr0 : (trimL n l).2.2 > 0 := hpos.2 hq
      have hpr := score_priced (l := l) (ent_priced (hok _ (worst_mem h0)))
      have hmore := ask_more hpr hw2 hrate
      have hwi : inS (trimL n l).2.1 (worstE l).id = true := inS_iff.2 hw1
      generalize trimL n l = q at *
      repeat' (first|(refine st_fixV (d := some 104) (.bool true) rfl (congrArg (fun b => some (Value.bool b)) (decide_eq_true hr0)) ?_)|(refine st_fixV (d := some 107) (.bool true) rfl (congrArg (fun b => some (Value.bool b)) (decide_eq_true (show ((q.2.1.length : Nat) : Int) > 0 by omega))) ?_)|(refine st_fixV (d := some 139) (.bool true) rfl (congrArg (fun b => some (Value.bool b)) (decide_eq_true (hmore.resolve_left h))) ?_)|(first|refine go1 ?_|refine zg (fun _ _=>?_)|refine zi (fun _ _=>?_))|(refine zJ (p := sizeL q.1 > n) rfl (fun h => absurd h (by omega)) (fun _ => ?_))|(refine zJ (p := sizeL l ≤ n) rfl (fun h => absurd h hnl) (fun _ => ?_))|(refine st_len (E := strE) (l := q.2.1) rfl (SlE.ext (by exact fx) e6) ?_)|(refine zL (p := ((q.2.1.length : Nat) : Int) = 0) rfl (fun h => absurd h (by omega)) (fun _ => ?_))|(refine zC (d := some 116) rfl (worst_spec (M := Mc) (l := l) _ (H6.r.ext (by exact fx)) (hN6 (by exact fx)) (by omega)) ?_; rintro _ w7 ⟨rfl, x7⟩)|(refine zC (d := some 122) rfl (score_spec (M := Mc) (l := l) (wS l l.length) _ (H6.r.ext (by exact fx)) (hN6 (by exact fx)) (by omega)) ?_; rintro _ w8 ⟨rfl, x8⟩; rw [wS_worst h0, scoreP_mem hnd (worst_mem h0)])|(refine zC (d := some 125) rfl (wakes19_spec _) ?_; rintro _ w9 ⟨rfl, x9⟩)|(refine zC (d := some 129) rfl (containsB19 (l := q.2.1) (worstE l).id _ (SlE.ext (by exact fx) e6) (by omega)) ?_; rintro _ _ ⟨rfl, rfl⟩; rw [hwi])|(refine zJ (d := some 135) (p := q.2.2 = 100000000) rfl (fun h => ?_) (fun h => ?_))|(refine zC (d := some 138) rfl (compare_spec _ _ _ _ _) ?_; rintro _ w10 ⟨rfl, x10⟩))
      all_goals exact x_ret rfl ⟨rfl, by exact fx⟩
end Go.Proofs.YteggaepppahefaaGreat
end
