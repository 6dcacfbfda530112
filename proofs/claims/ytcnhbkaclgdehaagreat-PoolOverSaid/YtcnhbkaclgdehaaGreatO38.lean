/- Contracts: a pool, by the program. Contracts: what a pool accepts, by the program. Contracts: accepting a transaction, by the program. -/
import Derived.Test.YtcnhbkaclgdehaaGreatO37
set_option linter.unusedVariables false
set_option linter.unusedSimpArgs false
section
namespace Go.Proofs.YtcnhbkaclgdehaaGreat
open Go Go.K
attribute [local irreducible] regK codeK retK KOp.wp K.Spec u32 leS vnS str zero32 sha2 encT idT sizeT checkT grantB idN stepR workL reachE findI dropG addG aboveL belowL idsOf feeD sizeD cntS metL confL evL inS inB needI needL feeOf needN needE mayE freshP rulesL fitsL feeP dustI numAt byteAt

/-- The terms of a pool. -/
abbrev termV (v : Value) (h rate : Int) : Value := .agg #[v, .int .i64 h, .int .i64 rate]
section
variable {f : Pt → Option Cn} {l : List Ent} {t : Tx} {h : Int}
theorem plain_bad (hc : checkT t ≠ 0) : plainP f l t h = (0, checkT t, -1) := by unfold plainP; rw [if_pos hc]
theorem plain_twice (hc : checkT t = 0) (hh : hasE l (idT t) = true) : plainP f l t h = (0, 7, -1) := by unfold plainP; rw [if_neg (by simpa using hc), if_pos hh]
theorem plain_fee (hc : checkT t = 0) (hh : hasE l (idT t) = false) (hf : (feeP (overV f l h) t h).2.1 ≠ 0) : plainP f l t h = (0, (feeP (overV f l h) t h).2) := by
  unfold plainP; rw [if_neg (by simpa using hc), if_neg (by rw [hh]; simp), if_pos hf]
theorem plain_ok (hc : checkT t = 0) (hh : hasE l (idT t) = false) (hf : (feeP (overV f l h) t h).2.1 = 0) : plainP f l t h = if 0 ≤ dustI t then (0, 13, dustI t) else ((feeP (overV f l h) t h).1, 0, -1) := by
  unfold plainP; rw [if_neg (by simpa using hc), if_neg (by rw [hh]; simp), if_neg (by simpa using hf)]
end
theorem plain_nil {cs : List Value} {iv ov : Value} {t : Tx} (v : Value) (h rate : Int) (he : cs = txCs t iv ov) (h1 : iv.oneCell' = true) (h2 : ov.oneCell' = true) (hv : v.oneCell' = true) (w : World) : K.Spec Tryz.prog F.pool_Plain [.pointer none, .agg cs.toArray, termV v h rate] w fun r w' => r = .tuple #[.int .i64 0, errno 1] ∧ Ext w w' := by
  subst he
  refine s_pool_Plain rfl ?_
  unfold k_pool_Plain
  refine oy ?_
  repeat' (first|(refine zD (d := some 4) rfl rfl (fun bt wt xt bt' (rt : Row wt ⟨bt, 0, none⟩ (txCs t iv ov)) hbt0=>?_))|(refine zD (d := some 5) (cs := [v, .int .i64 h, .int .i64 rate]) rfl rfl (fun bs ws xs bs' (rs : Row ws ⟨bs, 0, none⟩ [v, .int .i64 h, .int .i64 rate]) hbs0=>?_))|(first|refine go1 ?_|refine zg (fun _ _=>?_)|refine zi (fun _ _=>?_)))
  exact x_ret rfl ⟨rfl, by exact fx⟩
set_option maxHeartbeats 4000000 in
theorem plain_spec {g : Nat} {M N : List Nat} {l : List Ent} {cs : List Value} {t : Tx} {v : Value} {f : Pt → Option Cn} (h rate : Int) (w : World) (hG : GrR w g M l) (hM : ∀ b ∈ M, b < w.heap.size) (hV : ViewR w v f) (ht : txR.rel N w cs t) (hs : t.Sm) :
    K.Spec Tryz.prog F.pool_Plain [.pointer (some ⟨g, 0, none⟩), .agg cs.toArray, termV v h rate] w fun r w' => ∃ e, r = .tuple #[.int .i64 (plainP f l t h).1, e] ∧ ErrR w' 1 e (plainP f l t h).2.1 (plainP f l t h).2.2 ∧ Ext w w' := by
  have ht0 := ht
  obtain ⟨iv, ov, rfl, hi, ho, hv⟩ := ht
  obtain ⟨vt, vu, rfl⟩ : ∃ vt vu, v = .iface vt vu := by obtain ⟨⟨a, b, e, _⟩, _⟩ := hV; exact ⟨a, b, e⟩
  refine s_pool_Plain rfl ?_
  unfold k_pool_Plain
  refine oy ?_
  by_cases hc : checkT t = 0
  · have hq : ∀ y ∈ t.outs, y.s.size ≤ 1000000 := fun y hy => by have := (sz_of_check hs hc).scr y hy; omega
    repeat (first|(refine zD (d := some 4) rfl rfl (fun bt wt xt bt' (rt : Row wt ⟨bt, 0, none⟩ (txCs t iv ov)) hbt0=>?_))|(refine zD (d := some 5) (cs := [.iface vt vu, .int .i64 h, .int .i64 rate]) rfl rfl (fun bs ws xs bs' (rs : Row ws ⟨bs, 0, none⟩ [.iface vt vu, .int .i64 h, .int .i64 rate]) hbs0=>?_))|(refine zC (d := some 26) rfl (id_spec (M := N) _ (cs := txCs t iv ov) (R.ext ht0 (by exact fx)) hs) ?_; rintro _ w5 ⟨rfl, x5⟩; rw [idV, if_pos hc])|(refine zC (d := some 36) rfl (get_spec (M := M) (l := l) (idT t) _ (hG.ext (by exact fx)) (fun b hb => Nat.lt_of_lt_of_le (hM b hb) (Ext.size (by exact fx)))) ?_; rintro _ w6 ⟨ds, rfl, ⟨iv6, ov6, rfl, o1, o2, o3⟩, x6⟩; have e1 := o1.one; have e2 := o2.one)|(refine zE (d' := 10) (fun _=>rfl) rfl rfl (by show (entCs (getE l (idT t)) iv6 ov6).all _ = true; simp [entCs, e1, e2]; exact ⟨rfl, rfl, rfl, rfl, rfl⟩) (fun b7 w7 x7 a7 (r7 : Row w7 ⟨b7, 0, none⟩ (entCs (getE l (idT t)) iv6 ov6)) hb7=>?_))|(first|refine go1 ?_|refine zg (fun _ _=>?_)|refine zi (fun _ _=>?_)))
    have rt7 : Row w7 ⟨bt, 0, none⟩ (txCs t iv ov) := rt.ext (by exact fx)
    have rs7 : Row w7 ⟨bs, 0, none⟩ [.iface vt vu, .int .i64 h, .int .i64 rate] := rs.ext (by exact fx)
    have x07 : Ext w w7 := by exact fx
    have G7 := hG.ext x07
    have hM7 : ∀ b ∈ M, b < w7.heap.size := fun b hb => Nat.lt_of_lt_of_le (hM b hb) x07.size
    have V7 := hV.ext x07
    have t7 := R.ext ht0 x07
    have x70 : Unit → Ext w w7 := fun _ => x07
    clear x07 o1 o2 o3 r7 x7 x6 x5 xs xt rt rs
    cases hh : hasE l (idT t) with
    | true =>
      rw [plain_twice hc hh]
      repeat' (first|(first|refine go1 ?_|refine zg (fun _ _=>?_)|refine zi (fun _ _=>?_)))
      exact x_ret rfl ⟨_, rfl, ErrR.num _ _ (by decide), Ext.trans (x70 ()) (by exact fx)⟩
    | false =>
      have step : ∀ w8, Ext w7 w8 → K.Spec Tryz.prog F.check_Fee [overI (.iface vt vu) (.pointer (some ⟨g, 0, none⟩)) h, .agg (txCs t iv ov).toArray, .int .i64 h] w8 fun r w' => ∃ e, r = .tuple #[.int .i64 (feeP (overV f l h) t h).1, e] ∧ ErrR w' 1 e (feeP (overV f l h) t h).2.1 (feeP (overV f l h) t h).2.2 ∧ Ext w8 w' := fun w8 x8 =>
        fee_spec (M := N) h w8 (over_view h (V7.ext x8) (G7.ext x8) (fun b hb => Nat.lt_of_lt_of_le (hM7 b hb) x8.size)) (R.ext t7 x8) hs
      repeat' (first|(refine zg (fun w8 x8 => ?_))|(refine st_both ?_ ?_)|(refine zC (d := some 47) rfl (pover_spec vt vu (some ⟨g, 0, none⟩) h _) ?_; rintro _ w9 ⟨rfl, x9⟩)|(refine st_joinV (b := .cons ⟨some 51, _, _⟩ _) (fun (_ : Unit) w' => Ext w7 w') (fun _ => [(4, .pointer (some ⟨bt, 0, none⟩)), (47, overI (.iface vt vu) (.pointer (some ⟨g, 0, none⟩)) h), (48, .agg (txCs t iv ov).toArray), (50, .int .i64 h)]) ?_ ?_)|(rintro _ ρ7 w10 x10; try dsimp only)|(exact ⟨(), ⟨rfl, rfl, rfl, rfl, trivial⟩, by exact fx⟩)|(first|refine go1 ?_|refine zg (fun _ _=>?_)|refine zi (fun _ _=>?_)))
      refine zC (d := some 51) rfl (step _ x10) ?_
      rintro _ w11 ⟨e, rfl, he, x11⟩
      obtain ⟨hn1, hn2⟩ := he.nil_iff
      clear x8
      by_cases hf : (feeP (overV f l h) t h).2.1 = 0
      · obtain ⟨rfl, hp⟩ := hn1 hf
        rw [plain_ok hc hh hf]
        by_cases hd : 0 ≤ dustI t
        · rw [if_pos hd]
          repeat' (first|(refine zC (d := some 59) rfl (first_spec (M := N) (t := t) (cs := txCs t iv ov) _ (R.ext t7 (by exact fx)) hs hq) ?_; rintro _ w12 ⟨rfl, x12⟩; rw [Int.max_eq_left hd])|(refine zL (x := .tmp 62) (p := dustI t ≥ 0) rfl (fun _ => ?_) (fun q => absurd hd q))|(refine st_build (d := some 65) (cs := [.int .i64 (dustI t), errno 13]) rfl ?_)|(refine zD (d := some 66) (cs := [.int .i64 (dustI t), errno 13]) rfl rfl (fun b13 w13 x13 a13 r13 hb13=>?_))|(first|refine go1 ?_|refine zg (fun _ _=>?_)|refine zi (fun _ _=>?_)))
          exact x_ret rfl ⟨_, rfl, .inr ⟨(show (13 : Int) ≠ 0 by decide), hd, b13, _, -1, rfl, a13, ErrR.num _ _ (by decide)⟩, Ext.trans (x70 ()) (by exact fx)⟩
        · rw [if_neg hd]
          repeat' (first|(refine zC (d := some 59) rfl (first_spec (M := N) (t := t) (cs := txCs t iv ov) _ (R.ext t7 (by exact fx)) hs hq) ?_; rintro _ w12 ⟨rfl, x12⟩)|(refine zL (x := .tmp 62) (p := dustI t ≥ 0) rfl (fun q => absurd q hd) (fun _ => ?_))|(first|refine go1 ?_|refine zg (fun _ _=>?_)|refine zi (fun _ _=>?_)))
          exact x_ret rfl ⟨_, rfl, ErrR.none_ _ _, Ext.trans (x70 ()) (by exact fx)⟩
      · obtain ⟨et, eu, rfl⟩ := hn2 hf
        rw [plain_fee hc hh hf]
        repeat' (first|(first|refine go1 ?_|refine zg (fun _ _=>?_)|refine zi (fun _ _=>?_)))
        exact x_ret rfl ⟨_, rfl, he.ext (by exact fx), Ext.trans (x70 ()) (by exact fx)⟩
  · rw [plain_bad hc]
    repeat' (first|(refine zD (d := some 4) rfl rfl (fun bt wt xt bt' (rt : Row wt ⟨bt, 0, none⟩ (txCs t iv ov)) hbt0=>?_))|(refine zD (d := some 5) (cs := [.iface vt vu, .int .i64 h, .int .i64 rate]) rfl rfl (fun bs ws xs bs' (rs : Row ws ⟨bs, 0, none⟩ [.iface vt vu, .int .i64 h, .int .i64 rate]) hbs0=>?_))|(refine zC (d := some 26) rfl (id_spec (M := N) _ (cs := txCs t iv ov) (R.ext ht0 (by exact fx)) hs) ?_; rintro _ w5 ⟨rfl, x5⟩; rw [idV, if_neg hc])|(refine zN (p := checkT t = 0) rfl (fun _ => ?_) (fun h => absurd h hc))|(first|refine go1 ?_|refine zg (fun _ _=>?_)|refine zi (fun _ _=>?_)))
    exact x_ret rfl ⟨_, rfl, ErrR.num _ _ hc, by exact fx⟩
end Go.Proofs.YtcnhbkaclgdehaaGreat
end
section
namespace Go.Proofs.YtcnhbkaclgdehaaGreat
open Go Go.K
attribute [local irreducible] regK codeK retK KOp.wp K.Spec u32 leS vnS str zero32 sha2 encT idT sizeT checkT grantB idN stepR workL reachE findI dropG addG aboveL belowL idsOf feeD sizeD cntS metL confL evL inS inB needI needL feeOf needN needE mayE freshP rulesL fitsL feeP dustI numAt byteAt plainP dropAll

theorem asked_spec (v : Value) (hv : v.oneCell' = true) (h rate : Int) (size : Nat) (hs : size ≤ 1000000) (w : World) : K.Spec Tryz.prog F.pool_Terms_asked [termV v h rate, .int .i64 (size : Nat)] w fun r w' => r = .int .i64 (askedF rate size) ∧ Ext w w' := by
  obtain ⟨R, hR⟩ : ∃ R : Nat, min (max rate 1000) 100000000 = (R : Int) := ⟨(min (max rate 1000) 100000000).toNat, by omega⟩
  have hR2 : R ≤ 100000000 := by omega
  have e : askedF rate size = (((R * size + 999) / 1000 : Nat) : Int) := by unfold askedF; rw [hR]; rfl
  rw [e]
  refine s_pool_Terms_asked rfl ?_
  unfold k_pool_Terms_asked
  refine oy ?_
  repeat' (first|(refine zD (d := some 2) (cs := [v, .int .i64 h, .int .i64 rate]) rfl rfl (fun bs ws xs bs' (rs : Row ws ⟨bs, 0, none⟩ [v, .int .i64 h, .int .i64 rate]) hbs0=>?_))|(refine st_max (d := some 10) (a := rate) (b := 1000) rfl rfl ?_)|(refine st_min (d := some 11) (a := max rate 1000) (b := 100000000) rfl rfl ?_; rw [hR])|(refine zC (d := some 13) rfl (afee_spec R size hR2 hs _) ?_; rintro _ w3 ⟨rfl, x3⟩)|(first|refine go1 ?_|refine zg (fun _ _=>?_)|refine zi (fun _ _=>?_)))
  exact x_ret rfl ⟨rfl, by exact fx⟩
set_option maxHeartbeats 1000000 in
theorem without_spec {g : Nat} {M : List Nat} {l : List Ent} {v : Value} {ids : List ByteArray} (w : World) (hG : GrR w g M l) (hM : ∀ b ∈ M, b < w.heap.size) (hn : l.length ≤ 1000) (hi : SlE strE w v ids) (hl : ids.length ≤ 1000) : K.Spec Tryz.prog F.pool_without [.pointer (some ⟨g, 0, none⟩), v] w fun r w' =>
    ∃ g' M', r = .pointer (some ⟨g', 0, none⟩) ∧ Gr w' w.heap.size g' M' (dropAll l ids) ∧ Ext w w' := by
  have d0 : dropAll l (ids.take 0) = l := by unfold dropAll; rfl
  refine s_pool_without rfl ?_
  unfold k_pool_without
  refine oy ?_
  repeat (first|(refine zC (d := some 9) rfl (gcopy_spec (M := M) (l := l) _ hG hM hn) ?_; rintro _ w1 ⟨g1, M1, rfl, G1, x1⟩)|(refine st_len (d := some 11) (E := strE) (l := ids) rfl (SlE.ext (w := w) (by exact fx) hi) ?_)|(refine c_loopV (fun (p : Nat × List Nat) w' => Ext w w' ∧ p.1 ≤ ids.length ∧ Gr w' w.heap.size g1 p.2 (dropAll l (ids.take p.1)) ∧ (dropAll l (ids.take p.1)).length ≤ 1000) (fun p => [(5, .pointer (some ⟨g1, 0, none⟩)), (10, v), (11, .int .i64 (ids.length : Nat)), (12, .int .i64 (p.1 : Nat))]) (fun p => ids.length - p.1) (0, M1) ⟨rfl, rfl, rfl, rfl, trivial⟩ ⟨x1, by simp, by rw [d0]; exact G1, by rw [d0]; exact hn⟩ ?_; rintro ⟨i, Mi⟩ ρ w3 ⟨x3, hil, hg, hlen⟩; simp only at hil hg hlen; dsimp only)|(first|refine go1 ?_|refine zg (fun _ _=>?_)|refine zi (fun _ _=>?_)))
  refine zL (p := ((i : Nat) : Int) < ((ids.length : Nat) : Int)) rfl (fun h => ?_) (fun h => ?_)
  · have hii : i < ids.length := by omega
    repeat' (first|(refine st_elemE (d := some 14) (E := strE) rfl rfl (n := i) (l := ids) (hi.ext x3) rfl hii (fun ad r5 => ?_); have r5 : Row w3 ad [Value.string ids[i]] := r5)|(refine zC (d := some 18) rfl (gdrop_spec (l := dropAll l (ids.take i)) ids[i] _ hg hlen) ?_; rintro _ w4 ⟨M4, rfl, g4, c4, m4⟩)|(first|refine go1 ?_|refine zg (fun _ _=>?_)|refine zi (fun _ _=>?_)))
    have hb := Gr.base hg
    refine ⟨(i + 1, M4), ⟨rfl, rfl, rfl, rfl, trivial⟩, ⟨(x3.chg c4).mono (fun b hb2 => .inr (hb b hb2)), hii, by show Gr w4 w.heap.size g1 M4 (dropAll l (ids.take (i + 1))); rw [dropAll_succ hii]; exact g4, ?_⟩, by show ids.length - (i + 1) < ids.length - i; omega⟩
    show (dropAll l (ids.take (i + 1))).length ≤ 1000
    rw [dropAll_succ hii]
    exact Nat.le_trans (by
      unfold dropG
      split
      · exact Nat.le_refl _
      · exact List.length_eraseIdx_le ..) hlen
  · repeat' (first|(first|refine go1 ?_|refine zg (fun _ _=>?_)|refine zi (fun _ _=>?_)))
    rw [List.take_of_length_le (by omega)] at hg
    exact x_ret rfl ⟨g1, Mi, rfl, hg, x3⟩
end Go.Proofs.YtcnhbkaclgdehaaGreat
end
section
namespace Go.Proofs.YtcnhbkaclgdehaaGreat
open Go Go.K
section
attribute [local irreducible] checkT grantB inE sumV sumE values
theorem fee_good {f : Pt → Option Cn} {t : Tx} {h : Int} (hc : checkT t = 0) (h0 : (feeP f t h).2.1 = 0) : grantB t = false ∧ goodB (feeP f t h).1 = true := by
  cases hg : grantB t with
  | true => rw [fee_grant hc hg] at h0; exact absurd h0 (show ¬ (4 : Int) = 0 by decide)
  | false =>
    refine ⟨rfl, ?_⟩
    by_cases hk : ∀ j, ∀ hj : j < t.ins.length, inE f t h t.ins[j] = 0
    · rw [fee_all hc hg hk] at h0 ⊢
      by_cases h1 : sumE (t.ins.map (inV f)) = 0
      · rw [if_neg (show ¬ sumE (t.ins.map (inV f)) ≠ 0 from fun q => q h1)] at h0 ⊢
        by_cases h2 : sumV (values t) > sumV (t.ins.map (inV f))
        · rw [if_pos h2] at h0; exact absurd h0 (show ¬ (12 : Int) = 0 by decide)
        · rw [if_neg h2]
          have g1 := (goodB_iff _).1 (sumE_good h1)
          have g2 := (goodB_iff _).1 (sumE_good (check_sum hc))
          exact (goodB_iff _).2 (by show 0 ≤ sumV (t.ins.map (inV f)) - sumV (values t) ∧ sumV (t.ins.map (inV f)) - sumV (values t) ≤ 2100000000000000; omega)
      · rw [if_pos (show sumE (t.ins.map (inV f)) ≠ 0 from h1)] at h0; exact absurd h0 h1
    · exfalso
      have : ∃ i, (t.ins.findIdx? fun x => decide (inE f t h x ≠ 0)) = some i := by
        cases hq : t.ins.findIdx? fun x => decide (inE f t h x ≠ 0) with
        | some i => exact ⟨i, rfl⟩
        | none =>
          refine absurd (fun j hj => ?_) hk
          have := List.findIdx?_eq_none_iff.1 hq _ (List.getElem_mem hj)
          simpa using this
      obtain ⟨i, hi⟩ := this
      obtain ⟨h1, h2, h3⟩ := List.findIdx?_eq_some_iff_getElem.1 hi
      have he : inE f t h t.ins[i] ≠ 0 := of_decide_eq_true h2
      rw [fee_in hc hg h1 (fun j hj hjl => by have := h3 j hj; simpa using this) he] at h0
      exact he h0
theorem plain_good {f : Pt → Option Cn} {l : List Ent} {t : Tx} {h : Int} (h0 : (plainP f l t h).2.1 = 0) : checkT t = 0 ∧ grantB t = false ∧ hasE l (idT t) = false ∧ goodB (plainP f l t h).1 = true := by
  by_cases hc : checkT t = 0
  · cases hh : hasE l (idT t) with
    | true => rw [plain_twice hc hh] at h0; exact absurd h0 (show ¬ (7 : Int) = 0 by decide)
    | false =>
      by_cases hf : (feeP (overV f l h) t h).2.1 = 0
      · obtain ⟨g1, g2⟩ := fee_good hc hf
        refine ⟨hc, g1, rfl, ?_⟩
        rw [plain_ok hc hh hf] at h0 ⊢
        by_cases hd : 0 ≤ dustI t
        · rw [if_pos hd] at h0; exact absurd h0 (show ¬ (13 : Int) = 0 by decide)
        · rw [if_neg hd]; exact g2
      · rw [plain_fee hc hh hf] at h0; exact absurd h0 hf
  · rw [plain_bad hc] at h0; exact absurd h0 hc
end
section
variable {f : Pt → Option Cn} {l : List Ent} {t : Tx} {h rate : Int}
theorem acc_plain (h0 : (plainP f l t h).2.1 ≠ 0) : accE f l t h rate = (plainP f l t h).2 ∧ accIds f l t h rate = [] ∧ accL f l t h rate = l := by
  have e : accE f l t h rate = (plainP f l t h).2 := by unfold accE; rw [if_pos h0]
  refine ⟨e, ?_, ?_⟩
  · unfold accIds; rw [e, if_neg h0]
  · unfold accL; rw [e, if_neg h0]
theorem acc_err {c : Int} (hc : c ≠ 0) (e : accE f l t h rate = (c, -1)) : accIds f l t h rate = [] ∧ accL f l t h rate = l := by
  refine ⟨?_, ?_⟩
  · unfold accIds; rw [e, if_neg (show ¬ c = 0 from hc)]
  · unfold accL; rw [e, if_neg (show ¬ c = 0 from hc)]
theorem acc_fee (h0 : (plainP f l t h).2.1 = 0) (h1 : (plainP f l t h).1 < askedF rate (sizeT t)) : accE f l t h rate = (11, -1) := by
  unfold accE; rw [if_neg (show ¬ (plainP f l t h).2.1 ≠ 0 from fun q => q h0), if_pos h1]
theorem acc_rules (h0 : (plainP f l t h).2.1 = 0) (h1 : ¬ (plainP f l t h).1 < askedF rate (sizeT t)) (h2 : rulesL l t (plainP f l t h).1 ≠ 0) : accE f l t h rate = (rulesL l t (plainP f l t h).1, -1) := by
  unfold accE; rw [if_neg (show ¬ (plainP f l t h).2.1 ≠ 0 from fun q => q h0), if_neg h1, if_pos h2]
theorem acc_fits (h0 : (plainP f l t h).2.1 = 0) (h1 : ¬ (plainP f l t h).1 < askedF rate (sizeT t)) (h2 : rulesL l t (plainP f l t h).1 = 0) (h3 : fitsL (restL l t) t ≠ 0) : accE f l t h rate = (fitsL (restL l t) t, -1) := by
  unfold accE; rw [if_neg (show ¬ (plainP f l t h).2.1 ≠ 0 from fun q => q h0), if_neg h1, if_neg (show ¬ rulesL l t (plainP f l t h).1 ≠ 0 from fun q => q h2), if_pos h3]
theorem acc_ok (h0 : (plainP f l t h).2.1 = 0) (h1 : ¬ (plainP f l t h).1 < askedF rate (sizeT t)) (h2 : rulesL l t (plainP f l t h).1 = 0) (h3 : fitsL (restL l t) t = 0) :
    accE f l t h rate = (0, -1) ∧ accIds f l t h rate = idsOf l (evL l t) ∧ accL f l t h rate = (addG (restL l t) t (plainP f l t h).1).1 := by
  have e : accE f l t h rate = (0, -1) := by
    unfold accE
    rw [if_neg (show ¬ (plainP f l t h).2.1 ≠ 0 from fun q => q h0), if_neg h1, if_neg (show ¬ rulesL l t (plainP f l t h).1 ≠ 0 from fun q => q h2), if_neg (show ¬ fitsL (restL l t) t ≠ 0 from fun q => q h3)]
  refine ⟨e, ?_, ?_⟩
  · unfold accIds; rw [e, if_pos rfl]
  · unfold accL; rw [e, if_pos rfl]
end
theorem dropG_len (l : List Ent) (s : ByteArray) : (dropG l s).1.length ≤ l.length := by
  unfold dropG
  split
  · exact Nat.le_refl _
  · exact List.length_eraseIdx_le ..
theorem dropAll_len : ∀ (ids : List ByteArray) (l : List Ent), (dropAll l ids).length ≤ l.length
  | [], l => Nat.le_refl _
  | s :: ids, l => Nat.le_trans (dropAll_len ids (dropG l s).1) (dropG_len l s)
end Go.Proofs.YtcnhbkaclgdehaaGreat
end
