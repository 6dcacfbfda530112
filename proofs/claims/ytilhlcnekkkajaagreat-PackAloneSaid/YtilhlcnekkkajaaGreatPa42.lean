/- Contracts: a pair that comes. Plain: what the document fixes of pairs. Contracts: what the document fixes of pairs. Plain: what may come one behind the other may come together. Contracts: views over no graph, and over no coins. The walk of PoolOver. -/
import Derived.Test.YtilhlcnekkkajaaGreatPa41
set_option linter.unusedVariables false
set_option linter.unusedSimpArgs false
section
namespace Go.Proofs.YtilhlcnekkkajaaGreat
open Go Go.K
theorem goodB_64 {a : Int} (h : goodB a = true) : is64 a := by have := (goodB_iff _).1 h; unfold is64; omega
theorem alone_good {f : Pt → Option Cn} {l : List Ent} {t : Tx} {h : Int} (h0 : (aloneP f l t h).2.1 = 0) : checkT t = 0 ∧ goodB (aloneP f l t h).1 = true ∧ idS t = idT t := by
  obtain ⟨h1, -, -, h4, -⟩ := aloneP_zero h0
  obtain ⟨hc, -, -, hg⟩ := plain_good h1
  exact ⟨hc, by rw [h4]; exact hg, by unfold idS; rw [if_pos hc]⟩
theorem withL_eq (f : Pt → Option Cn) (l : List Ent) (a : Tx) (h : Int) : withL f l a h = l ++ [newE a (aloneP f l a h).1] := rfl
attribute [local irreducible] regK codeK retK KOp.wp K.Spec u32 leS vnS str zero32 sha2 encT idT sizeT checkT grantB idN stepR workL reachE findI dropG addG aboveL belowL idsOf feeD sizeD cntS metL confL evL inS inB needI needL feeOf needN needE mayE freshP rulesL fitsL feeP dustI numAt byteAt plainP dropAll accE accIds accL askedF makeP coinsP coinsW aloneP pairE pairIds pairL idS withL
theorem later_spec {B g : Nat} {M N U : List Nat} {l : List Ent} {cs : List Value} {t : Tx} {v : Value} {f : Pt → Option Cn} (h rate : Int) (w : World) (hG : GrU w B g M U l) (hU : ∀ b ∈ U, b < w.heap.size) (hUN : ∀ b ∈ U, b ∈ N) (hV : ViewR w v f) (ht : txR.rel N w cs t) (hs : t.Sm) (hN : ∀ b ∈ N, b < w.heap.size) (hMN : ∀ b ∈ M, b ∈ N) (hl : l.length ≤ 1000) (hf : ∀ x ∈ l, x.fee ≤ 1000000000000) :
    K.Spec Tryz.prog F.pack_later [.pointer (some ⟨g, 0, none⟩), .agg cs.toArray, termV v h rate] w fun r w' => ∃ u e M', r = .tuple #[u, e] ∧ Own strE T.string w.heap.size w' u (accIds f l t h rate) ∧ ErrR w' 2 e (accE f l t h rate).1 (if (accE f l t h rate).1 ≠ 0 then 1 else -1) ∧ GrU w' B g M' U (accL f l t h rate) ∧ Chg M w w' ∧ (∀ b ∈ M', b ∈ M ∨ w.heap.size ≤ b) ∧ (∀ b ∈ blkOf u, b ∉ M') := by
  have ht0 := ht
  obtain ⟨iv, ov, rfl, hi, ho, hv⟩ := ht
  obtain ⟨vt, vu, rfl⟩ : ∃ vt vu, v = .iface vt vu := by obtain ⟨⟨a, b, e, _⟩, _⟩ := hV; exact ⟨a, b, e⟩
  refine s_pack_later rfl ?_
  unfold k_pack_later
  refine oy ?_
  repeat' (first|(refine zD (d := some 4) rfl rfl (fun bt wt xt bt' (rt : Row wt ⟨bt, 0, none⟩ (txCs t iv ov)) hbt0=>?_))|(refine zD (d := some 5) (cs := [.iface vt vu, .int .i64 h, .int .i64 rate]) rfl rfl (fun bs ws xs bs' (rs : Row ws ⟨bs, 0, none⟩ [.iface vt vu, .int .i64 h, .int .i64 rate]) hbs0=>?_))|(first|refine go1 ?_|refine zg (fun _ _=>?_)|refine zi (fun _ _=>?_)))
  have x0s := xt.trans xs
  refine zC (d := some 14) rfl (accept_gu (M := M) (U := U) (N := N) (l := l) (f := f) (cs := txCs t iv ov) (t := t) h rate _ (hG.ext x0s) (fun b hb => Nat.lt_of_lt_of_le (hU b hb) x0s.size) hUN (hV.ext x0s) (R.ext ht0 x0s) hs (fun b hb => Nat.lt_of_lt_of_le (hN b hb) x0s.size) hMN hl hf) ?_
  rintro _ w3 ⟨u, e, M', rfl, hu, he, G3, c3, hM3, hd3⟩
  have hu := hu.lower x0s.size
  have c03 := Ext.chg x0s c3
  have hM3' : ∀ b ∈ M', b ∈ M ∨ w.heap.size ≤ b := fun b hb => (hM3 b hb).imp id (Nat.le_trans x0s.size)
  obtain ⟨hn1, hn2⟩ := he.nil_iff
  by_cases h0 : (accE f l t h rate).1 = 0
  · obtain ⟨rfl, -⟩ := hn1 h0
    repeat (first|refine go1 ?_|refine zg (fun _ _=>?_)|refine zi (fun _ _=>?_))
    refine x_ret rfl ⟨u, .nilIface, M', rfl, hu, ?_, G3, c03, hM3', hd3⟩
    rw [h0]; exact ErrR.none_ w3 2
  · obtain ⟨et, eu, rfl⟩ := hn2 h0
    obtain ⟨e1, e2⟩ := acc_not h0
    repeat' (first|(refine zC (d := some 20) rfl (fault_spec 1 _ he h0 (by decide)) ?_; rintro e4 w4 ⟨he4, x4⟩)|(first|refine go1 ?_|refine zg (fun _ _=>?_)|refine zi (fun _ _=>?_)))
    refine x_ret rfl ⟨.slice none 0 0, e4, M', rfl, ?_, ?_, G3.ext x4, c03.ext x4, hM3', fun b hb => by simp [blkOf] at hb⟩
    · rw [e1]; exact Own.nil _ _ _
    · rw [if_pos h0]; exact he4
set_option maxHeartbeats 4000000 in
theorem pair_spec {B g : Nat} {M N U : List Nat} {l : List Ent} {cs ds : List Value} {a b : Tx} {v : Value} {f : Pt → Option Cn} (h rate : Int) (w : World) (hG : GrU w B g M U l) (hU : ∀ b ∈ U, b < w.heap.size) (hUN : ∀ b ∈ U, b ∈ N) (hV : ViewR w v f) (ha : txR.rel N w cs a) (hsa : a.Sm) (hb : txR.rel N w ds b) (hsb : b.Sm) (hN : ∀ b ∈ N, b < w.heap.size) (hMN : ∀ b ∈ M, b ∈ N) (hl : l.length ≤ 998) (hf : ∀ x ∈ l, x.fee ≤ 1000000000000) (hz : checkT a = 0 → checkT b = 0 → sizeT a + sizeT b ≤ 1000000) :
    K.Spec Tryz.prog F.pack_Pair [.pointer (some ⟨g, 0, none⟩), .agg cs.toArray, .agg ds.toArray, termV v h rate] w fun r w' => ∃ u e M', r = .tuple #[u, e] ∧ Own strE T.string w.heap.size w' u (pairIds f l a b h rate) ∧ ErrR w' 2 e (pairE f l a b h rate).1 (pairE f l a b h rate).2 ∧ GrU w' B g M' U (pairL f l a b h rate) ∧ Chg M w w' ∧ (∀ b ∈ M', b ∈ M ∨ w.heap.size ≤ b) ∧ (∀ b ∈ blkOf u, b ∉ M') := by
  have ha0 := ha
  have hb0 := hb
  have hM : ∀ b ∈ M, b < w.heap.size := fun b hb => hN b (hMN b hb)
  obtain ⟨iv, ov, rfl, hi, ho, hv⟩ := ha
  obtain ⟨iv2, ov2, rfl, hi2, ho2, hv2⟩ := hb
  obtain ⟨vt, vu, rfl⟩ : ∃ vt vu, v = .iface vt vu := by obtain ⟨⟨a, b, e, _⟩, _⟩ := hV; exact ⟨a, b, e⟩
  have fail : ∀ {w' : World} {e : Value} {c i : Int}, Ext w w' → ¬ hasE l (idS a) = true → pairE f l a b h rate = (c, i) → c ≠ 0 → ErrR w' 2 e c i → ∃ u e' M', Value.tuple #[.slice none 0 0, e] = .tuple #[u, e'] ∧ Own strE T.string w.heap.size w' u (pairIds f l a b h rate) ∧ ErrR w' 2 e' (pairE f l a b h rate).1 (pairE f l a b h rate).2 ∧ GrU w' B g M' U (pairL f l a b h rate) ∧ Chg M w w' ∧ (∀ b ∈ M', b ∈ M ∨ w.heap.size ≤ b) ∧ (∀ b ∈ blkOf u, b ∉ M') := fun x hn e1 hc he => by
    obtain ⟨e2, e3⟩ := pair_err hn e1 hc
    exact ⟨.slice none 0 0, _, M, rfl, by rw [e2]; exact Own.nil _ _ _, by rw [e1]; exact he, by rw [e3]; exact hG.ext x, x.mono (by simp), fun b hb => .inl hb, fun b hb => by simp [blkOf] at hb⟩
  refine s_pack_Pair rfl ?_
  unfold k_pack_Pair
  refine oy ?_
  repeat' (first|(refine zD (d := some 5) rfl rfl (fun bt wt xt bt' (rt : Row wt ⟨bt, 0, none⟩ (txCs a iv ov)) hbt0=>?_))|(refine zD (d := some 6) rfl rfl (fun bu wu xu bu' (ru : Row wu ⟨bu, 0, none⟩ (txCs b iv2 ov2)) hbu0=>?_))|(refine zD (d := some 7) (cs := [.iface vt vu, .int .i64 h, .int .i64 rate]) rfl rfl (fun bs ws xs bs' (rs : Row ws ⟨bs, 0, none⟩ [.iface vt vu, .int .i64 h, .int .i64 rate]) hbs0=>?_))|(refine zC (d := some 28) rfl (id_spec (M := N) (cs := txCs a iv ov) (t := a) _ (R.ext ha0 (by exact fx)) hsa) ?_; rintro _ w3 ⟨rfl, x3⟩; rw [idV_eq])|(refine zC (d := some 34) rfl (get_spec (M := M) (l := l) (idS a) _ (hG.gr.ext (by exact fx)).r (fun b hb => Nat.lt_of_lt_of_le (hM b hb) (Ext.size (by exact fx)))) ?_; rintro _ w4 ⟨es, rfl, ho4, x4⟩; obtain ⟨iv8, ov8, rfl, p81, p82, -⟩ := ho4; have e81 := p81.one; have e82 := p82.one)|(refine zE (d' := 12) (fun _=>rfl) rfl rfl (by show List.all (entCs _ _ _) _ = true; simp [entCs, e81, e82]; exact ⟨rfl, rfl, rfl, rfl, rfl⟩) (fun b5 w5 x5 a5 r5 hb5=>?_))|(first|refine go1 ?_|refine zg (fun _ _=>?_)|refine zi (fun _ _=>?_)))
  have rt5 : Row w5 ⟨bt, 0, none⟩ (txCs a iv ov) := Row.ext (show Ext wt w5 by exact fx) rt
  have ru5 : Row w5 ⟨bu, 0, none⟩ (txCs b iv2 ov2) := Row.ext (show Ext wu w5 by exact fx) ru
  have rs5 : Row w5 ⟨bs, 0, none⟩ [.iface vt vu, .int .i64 h, .int .i64 rate] := Row.ext (show Ext ws w5 by exact fx) rs
  have x05 : Ext w w5 := by exact fx
  have G5 := hG.ext x05
  have V5 := hV.ext x05
  have a5 := R.ext ha0 x05
  have b5' := R.ext hb0 x05
  have s05 := x05.size
  have hU5 : ∀ b ∈ U, b < w5.heap.size := fun b hb => Nat.lt_of_lt_of_le (hU b hb) s05
  have hN5 : ∀ b ∈ N, b < w5.heap.size := fun b hb => Nat.lt_of_lt_of_le (hN b hb) s05
  have hM5 : ∀ b ∈ M, b < w5.heap.size := fun b hb => Nat.lt_of_lt_of_le (hM b hb) s05
  have x05' : Unit → Ext w w5 := fun _ => x05
  have hbuw : w.heap.size ≤ bu := Nat.le_trans xt.size hbu0
  clear xt xu xs x3 x4 x5 bt' bu' rt ru rs r5 p81 p82 x05
  refine zM (x := .tmp 37) rfl (fun h1 => ?_) (fun h1 => ?_)
  · repeat (first|refine go1 ?_|refine zg (fun _ _=>?_)|refine zi (fun _ _=>?_))
    refine zC (d := some 41) rfl (later_spec (M := M) (U := U) (N := N) (l := l) (f := f) (cs := txCs b iv2 ov2) (t := b) h rate _ G5 hU5 hUN V5 b5' hsb hN5 hMN (by omega) hf) ?_
    rintro _ w6 ⟨u, e, M', rfl, hu, he, G6, c6, hM6, hd6⟩
    repeat (first|refine go1 ?_|refine zg (fun _ _=>?_)|refine zi (fun _ _=>?_))
    obtain ⟨e1, e2, e3⟩ := @pair_there f l a b h rate h1
    refine x_ret rfl ⟨u, e, M', rfl, by rw [e2]; exact hu.lower s05, ?_, by rw [e3]; exact G6, Ext.chg (x05' ()) c6, fun b hb => (hM6 b hb).imp id (Nat.le_trans s05), hd6⟩
    rw [e1]
    by_cases h0 : (accE f l b h rate).1 ≠ 0
    · rw [if_pos h0] at he ⊢; exact he
    · rw [if_neg h0] at he ⊢
      have h0 : (accE f l b h rate).1 = 0 := Decidable.not_not.1 h0
      rw [h0] at he; exact he
  · have hn : ¬ hasE l (idS a) = true := by rw [h1]; decide
    repeat (first|refine go1 ?_|refine zg (fun _ _=>?_)|refine zi (fun _ _=>?_))
    refine zC (d := some 48) rfl (alone_spec (M := M) (N := N) (l := l) (f := f) (cs := txCs a iv ov) (t := a) h rate _ G5.gr.r hM5 V5 a5 hsa (by omega)) ?_
    rintro _ w6 ⟨e, rfl, he, x6⟩
    obtain ⟨hn1, hn2⟩ := he.nil_iff
    by_cases h2 : (aloneP f l a h).2.1 = 0
    · obtain ⟨rfl, -⟩ := hn1 h2
      obtain ⟨hca, hga, hia⟩ := alone_good h2
      have hadd := alone_add h2
      obtain ⟨fa, hfa⟩ : ∃ fa, (aloneP f l a h).1 = fa := ⟨_, rfl⟩
      have hgf := (goodB_iff _).1 hga
      repeat' (first|(refine zC (d := some 56) rfl (gcopy_spec (M := M) (l := l) _ (G5.gr.ext x6).r (fun b hb => Nat.lt_of_lt_of_le (hM5 b hb) x6.size) (by omega)) ?_; rintro _ w7 ⟨gw, Mw, rfl, Gw, x7⟩)|(first|refine go1 ?_|refine zg (fun _ _=>?_)|refine zi (fun _ _=>?_)))
      have hBw := Gw.base
      have hLw := Gw.lt
      have x57 := x6.trans x7
      have aN : txR.rel (N ++ Mw) w7 (txCs a iv ov) a := R.step txR a5 x57 (by simp) (fun b hb => (List.mem_append.1 hb).elim .inl (fun h => .inr (Nat.le_trans x6.size (hBw b h))))
      refine zC (d := some 60) rfl (gadd_spec (N := N ++ Mw) (cs := txCs a iv ov) (aloneP f l a h).1 _ Gw aN hsa (goodB_64 hga) (fun b hb => (List.mem_append.1 hb).elim (fun h => Nat.lt_of_lt_of_le (hN5 b h) x57.size) (hLw b)) (fun b hb => List.mem_append_right _ hb) (by omega)) ?_
      rintro _ w8 ⟨Mw1, rfl, Gw1, cw, hMw1⟩
      rw [hadd] at Gw1
      replace Gw1 : Gr w8 w6.heap.size gw Mw1 (withL f l a h) := by rw [withL_eq]; exact Gw1
      have x58 : Ext w5 w8 := (Ext.chg x57 cw).mono (fun b hb => .inr (Nat.le_trans x6.size (hBw b hb)))
      have hlw : (withL f l a h).length ≤ 999 := by rw [withL_eq, List.length_append]; simp; omega
      have hLw1 := Gw1.lt
      have rt8 := Row.ext x58 rt5
      have ru8 := Row.ext x58 ru5
      have rs8 := Row.ext x58 rs5
      have G8 := G5.ext x58
      have V8 := V5.ext x58
      have a8 := R.ext a5 x58
      have b8 := R.ext b5' x58
      have s58 := x58.size
      have x08' : Unit → Ext w w8 := fun _ => (x05' ()).trans x58
      clear x6 x7 x57 cw aN Gw he hn1 hn2 x58 rt5 ru5 rs5 G5 V5
      repeat' (first|(refine zC (d := some 64) rfl (pformed_spec (M := Mw1) (N := N) (l := withL f l a h) (cs := txCs b iv2 ov2) (t := b) (idS a) _ (Gw1.ext (by exact fx)).r (fun b hb => Nat.lt_of_lt_of_le (hLw1 b hb) (Ext.size (by exact fx))) (R.ext b8 (by exact fx)) hsb.ins (by omega)) ?_; rintro _ w9 ⟨rfl, x9⟩)|(first|refine go1 ?_|refine zg (fun _ _=>?_)|refine zi (fun _ _=>?_)))
      have x89 : Ext w8 w9 := by exact fx
      have G9 := G8.ext x89
      have V9 := V8.ext x89
      have rt9 := Row.ext x89 rt8
      have ru9 := Row.ext x89 ru8
      have rs9 := Row.ext x89 rs8
      have a9 := R.ext a8 x89
      have b9 := R.ext b8 x89
      have Gw9 := Gw1.ext x89
      have s89 := x89.size
      have x09' : Unit → Ext w w9 := fun _ => (x08' ()).trans x89
      clear x89 G8 V8 rt8 ru8 rs8 a8 b8 x9 Gw1 x08'
      refine zN (p := idsOf (withL f l a h) (aboveL (withL f l a h) b) = [idS a]) rfl (fun h3 => ?_) (fun h3 => ?_)
      rotate_left
      · repeat (first|refine go1 ?_|refine zg (fun _ _=>?_)|refine zi (fun _ _=>?_))
        refine zC (d := some 72) rfl (alone_spec (M := Mw1) (N := N) (l := withL f l a h) (f := f) (cs := txCs b iv2 ov2) (t := b) h rate _ Gw9.r (fun b hb => Nat.lt_of_lt_of_le (hLw1 b hb) s89) V9 b9 hsb (by omega)) ?_
        rintro _ w10 ⟨e, rfl, he, x10⟩
        obtain ⟨hn1, hn2⟩ := he.nil_iff
        by_cases h4 : (aloneP f (withL f l a h) b h).2.1 = 0
        · obtain ⟨rfl, -⟩ := hn1 h4
          obtain ⟨hcb, hgb, -⟩ := alone_good h4
          have haddb := alone_add h4
          have hgfb := (goodB_iff _).1 hgb
          obtain ⟨fa, hfa⟩ : ∃ fa, (aloneP f l a h).1 = fa := ⟨_, rfl⟩
          obtain ⟨fb, hfb⟩ : ∃ fb, (aloneP f (withL f l a h) b h).1 = fb := ⟨_, rfl⟩
          repeat' (first|(refine st_fixV (d := some 81) (.int .i64 ((aloneP f l a h).1 + (aloneP f (withL f l a h) b h).1)) rfl (congrArg (fun n => some (Value.int .i64 n)) (IntWalk.i64_in _ (by omega))) ?_)|(refine zC (d := some 86) rfl (enough_spec (M := N) (N := N) (cs := txCs a iv ov) (ds := txCs b iv2 ov2) (t := a) (u := b) _ rate _ (R.ext a9 (by exact fx)) (R.ext b9 (by exact fx)) hsa hsb hca hcb (hz hca hcb)) ?_; rintro _ w11 ⟨rfl, x11⟩)|(first|refine go1 ?_|refine zg (fun _ _=>?_)|refine zi (fun _ _=>?_)))
          have s9b := Ext.size (show Ext w9 w11 by exact fx)
          have G11 := G9.ext (show Ext w9 w11 by exact fx)
          have rt11 := Row.ext (show Ext w9 w11 by exact fx) rt9
          have ru11 := Row.ext (show Ext w9 w11 by exact fx) ru9
          have a11 := R.ext a9 (show Ext w9 w11 by exact fx)
          have b11 := R.ext b9 (show Ext w9 w11 by exact fx)
          have x011 := (x09' ()).trans (show Ext w9 w11 by exact fx)
          refine zN (p := (aloneP f l a h).1 + (aloneP f (withL f l a h) b h).1 ≥ askedF rate (sizeT a + sizeT b)) rfl (fun h5 => ?_) (fun h5 => ?_)
          · have h5 : (aloneP f l a h).1 + (aloneP f (withL f l a h) b h).1 < askedF rate (sizeT a + sizeT b) := Int.not_le.1 h5
            repeat (first|refine go1 ?_|refine zg (fun _ _=>?_)|refine zi (fun _ _=>?_))
            exact x_ret rfl (fail x011 hn (pair_fee hn h2 h3 h4 h5) (by decide) (ErrR.num _ 2 (show (11 : Int) ≠ 0 by decide)))
          · have h5 : ¬ (aloneP f l a h).1 + (aloneP f (withL f l a h) b h).1 < askedF rate (sizeT a + sizeT b) := fun q => absurd h5 (Int.not_le.2 q)
            obtain ⟨e1, e2, e3⟩ := pair_ok hn h2 h3 h4 h5
            repeat (first|refine go1 ?_|refine zg (fun _ _=>?_)|refine zi (fun _ _=>?_))
            refine zC (d := some 92) rfl (gadd_gu (N := N) (cs := txCs a iv ov) (aloneP f l a h).1 _ G11 hUN a11 hsa (goodB_64 hga) (fun b hb => Nat.lt_of_lt_of_le (hN b hb) x011.size) hMN (by omega)) ?_
            rintro _ w12 ⟨M1, rfl, G12, c12, hM1⟩
            rw [hadd] at G12
            replace G12 : GrU w12 B g M1 U (withL f l a h) := by rw [withL_eq]; exact G12
            have b12 : txR.rel (N ++ M1) w12 (txCs b iv2 ov2) b := R.step txR b11 c12 (fun b hb => .inl (hMN b hb)) (fun b hb => (List.mem_append.1 hb).elim .inl (fun q => (hM1 b q).imp (hMN b) id))
            have ru12 : Row w12 ⟨bu, 0, none⟩ (txCs b iv2 ov2) := Row.chg c12 ru11 (fun q => by have := hM bu q; omega)
            have hL12 := G12.gr.lt
            repeat (first|refine go1 ?_|refine zg (fun _ _=>?_)|refine zi (fun _ _=>?_))
            refine zC (d := some 96) rfl (gadd_gu (M := M1) (N := N ++ M1) (cs := txCs b iv2 ov2) (aloneP f (withL f l a h) b h).1 _ G12 (fun b hb => List.mem_append_left _ (hUN b hb)) b12 hsb (goodB_64 hgb) (fun b hb => (List.mem_append.1 hb).elim (fun q => Nat.lt_of_lt_of_le (hN b q) (Nat.le_trans x011.size c12.size)) (hL12 b)) (fun b hb => List.mem_append_right _ hb) (by omega)) ?_
            rintro _ w13 ⟨M2, rfl, G13, c13, hM2⟩
            rw [haddb] at G13
            repeat (first|refine go1 ?_|refine zg (fun _ _=>?_)|refine zi (fun _ _=>?_))
            refine x_ret rfl ⟨.slice none 0 0, .nilIface, M2, rfl, by rw [e2]; exact Own.nil _ _ _, by rw [e1]; exact ErrR.none_ w13 2, by rw [e3]; exact G13, Ext.chg x011 ((Chg.trans c12 c13).mono (fun b hb => (List.mem_append.1 hb).elim .inl (hM1 b))), fun b hb => ?_, fun b hb => by simp [blkOf] at hb⟩
            have s1 := x011.size
            have s2 := c12.size
            rcases hM2 b hb with q | q
            · rcases hM1 b q with q | q
              · exact .inl q
              · right; omega
            · right; omega
        · obtain ⟨et, eu, rfl⟩ := hn2 h4
          repeat' (first|(refine zC (d := some 78) rfl (fault_spec 1 _ he h4 (by decide)) ?_; rintro e7 w11 ⟨he7, x11⟩)|(first|refine go1 ?_|refine zg (fun _ _=>?_)|refine zi (fun _ _=>?_)))
          exact x_ret rfl (fail ((x09' ()).trans (x10.trans x11)) hn (pair_second hn h2 h3 h4) h4 he7)
      · repeat' (first|(refine zC (d := some 67) rfl (fault_spec 1 _ (ErrR.num _ 1 (show (4 : Int) ≠ 0 by decide)) (show (4 : Int) ≠ 0 by decide) (by decide)) ?_; rintro e7 w10 ⟨he7, x10⟩)|(first|refine go1 ?_|refine zg (fun _ _=>?_)|refine zi (fun _ _=>?_)))
        exact x_ret rfl (fail ((x09' ()).trans x10) hn (pair_form hn h2 h3) (by decide) he7)
    · obtain ⟨et, eu, rfl⟩ := hn2 h2
      repeat' (first|(refine zC (d := some 54) rfl (fault_spec 0 _ he h2 (by decide)) ?_; rintro e7 w7 ⟨he7, x7⟩)|(first|refine go1 ?_|refine zg (fun _ _=>?_)|refine zi (fun _ _=>?_)))
      exact x_ret rfl (fail ((x05' ()).trans (x6.trans x7)) hn (pair_first hn h2) h2 he7)
end Go.Proofs.YtilhlcnekkkajaaGreat
end
section
namespace Go.K
open Go Go.Proofs.YtilhlcnekkkajaaGreat
abbrev zW2 : PSm := ⟨[0], 1, 400, 0, 0, false, 0⟩
def aW : Tx := makeP coinsW zW0
def bW : Tx := makeP (twoV coinsW aW) zW2
theorem aW_eq : makeP coinsW zW0 = aW := rfl
theorem bW_eq : makeP (twoV coinsW aW) zW2 = bW := rfl
theorem aW_sm : aW.Sm := makeP_sm _ _
theorem bW_sm : bW.Sm := makeP_sm _ _
theorem aW_0 : accE (aget coinsW) [] aW 5 0 = (11, -1) := wk0
theorem aW_1 : accIds (aget coinsW) [] aW 5 0 = [] ∧ accL (aget coinsW) [] aW 5 0 = [] := wk0n
theorem zW_ins : aW.ins.length ≤ 4 ∧ bW.ins.length ≤ 4 := ⟨makeP_ins _ _, makeP_ins _ _⟩
theorem wp1 : hasE [] (idS aW) = false := rfl
theorem wp2 : (aloneP (aget coinsW) [] aW 5) = (0, 0, -1) := by kernel_rfl
theorem wp3 : idsOf (withL (aget coinsW) [] aW 5) (aboveL (withL (aget coinsW) [] aW 5) bW) = [idS aW] := by kernel_rfl
theorem wp4 : (aloneP (aget coinsW) (withL (aget coinsW) [] aW 5) bW 5) = (400, 0, -1) := by kernel_rfl
theorem wp5 : decide (askedF 0 (sizeT aW + sizeT bW) ≤ 400) = true := by kernel_rfl
theorem wpc : checkT aW = 0 ∧ checkT bW = 0 := ⟨by kernel_rfl, by kernel_rfl⟩
theorem wp_ok : pairE (aget coinsW) [] aW bW 5 0 = (0, -1) ∧ pairIds (aget coinsW) [] aW bW 5 0 = [] ∧ pairL (aget coinsW) [] aW bW 5 0 = [newE aW 0, newE bW 400] := by
  have h := pair_ok (f := aget coinsW) (l := []) (a := aW) (b := bW) (h := 5) (rate := 0) (by rw [wp1]; decide) (by rw [wp2]) wp3 (by rw [wp4]) (by
    rw [wp2, wp4]
    have := of_decide_eq_true wp5
    show ¬ (0 + 400 : Int) < _
    omega)
  refine ⟨h.1, h.2.1, ?_⟩
  rw [h.2.2, wp4]
  unfold withL
  rw [wp2]; rfl
theorem wpz : sizeT aW + sizeT bW ≤ 1000000 := by
  have h1 := size_few (sz_of_check aW_sm wpc.1) zW_ins.1
  have h2 := size_few (sz_of_check bW_sm wpc.2) zW_ins.2
  omega
end Go.K
end
section
namespace Go.Proofs.YtilhlcnekkkajaaGreat
open Go Go.K
attribute [local irreducible] regK codeK retK KOp.wp K.Spec u32 leS vnS str zero32 sha2 encT idT sizeT checkT grantB idN stepR workL reachE findI dropG addG aboveL belowL idsOf feeD sizeD cntS metL confL evL inS inB needI needL feeOf needN needE mayE freshP rulesL fitsL feeP dustI numAt byteAt plainP dropAll accE accIds accL askedF makeP coinsP coinsW aloneP pairE pairIds pairL idS withL twoV ownK aW bW
theorem pair_nil {cs ds : List Value} {iv ov iv2 ov2 : Value} {a b : Tx} (v : Value) (h rate : Int) (he : cs = txCs a iv ov) (he2 : ds = txCs b iv2 ov2) (h1 : iv.oneCell' = true) (h2 : ov.oneCell' = true) (h3 : iv2.oneCell' = true) (h4 : ov2.oneCell' = true) (hv : v.oneCell' = true) (w : World) : K.Spec Tryz.prog F.pack_Pair [.pointer none, .agg cs.toArray, .agg ds.toArray, termV v h rate] w fun r w' => r = .tuple #[.slice none 0 0, errno 1] ∧ Ext w w' := by
  subst he
  subst he2
  refine s_pack_Pair rfl ?_
  unfold k_pack_Pair
  refine oy ?_
  repeat' (first|(refine zD (d := some 5) rfl rfl (fun bt wt xt bt' (rt : Row wt ⟨bt, 0, none⟩ (txCs a iv ov)) hbt0=>?_))|(refine zD (d := some 6) rfl rfl (fun bu wu xu bu' (ru : Row wu ⟨bu, 0, none⟩ (txCs b iv2 ov2)) hbu0=>?_))|(refine zD (d := some 7) (cs := [v, .int .i64 h, .int .i64 rate]) rfl rfl (fun bs ws xs bs' (rs : Row ws ⟨bs, 0, none⟩ [v, .int .i64 h, .int .i64 rate]) hbs0=>?_))|(first|refine go1 ?_|refine zg (fun _ _=>?_)|refine zi (fun _ _=>?_)))
  exact x_ret rfl ⟨rfl, by exact fx⟩
set_option maxHeartbeats 4000000 in
theorem wakes18_spec (w : World) : K.Spec Tryz.prog F.kedgelaw18_wakes [] w fun r w' => r = .bool true ∧ Ext w w' := by
  refine s_kedgelaw18_wakes rfl ?_
  unfold k_kedgelaw18_wakes
  refine oy ?_
  repeat' (first|(refine zI (d := some 13) (cs := [.int .u16 500]) rfl (fun bz wz xz az hbz => ?_))|(first|refine go1 ?_|refine zg (fun _ _=>?_)|refine zi (fun _ _=>?_)))
  refine zC rfl (coins17_spec (vals := [500]) _ (slAt' (E := u16R) (M := []) (l := [500]) [⟨[.int .u16 500], rfl, by intro v hv; simp at hv; subst hv; rfl⟩] az rfl (.cons ⟨rfl, by decide, by decide⟩ .nil) (by simp) rfl) (by intro a ha; simp at ha; subst ha; decide)) ?_
  rintro vV w2 ⟨hv2, hb2, x2⟩
  rw [coinsW_eq] at hv2
  have x02 : Unit → Ext w w2 := fun _ => xz.trans x2
  clear xz x2 az
  repeat' (first|(refine zC (d := some 16) rfl (set18_spec _ hv2 coinsW_ok (by decide)) ?_; rintro _ w3 ⟨b, mb, rfl, hS3, hb3, hmb3, x3⟩)|(refine zE (d' := 2) (fun _=>rfl) rfl rfl rfl (fun bs w4 x4 a4 (r4 : Row w4 ⟨bs, 0, none⟩ [.iface T.P_coins_Set (.pointer (some ⟨b, 0, none⟩)), .int .i64 5, .int .i64 0]) hbs4=>?_))|(refine zI (d := some 21) (cs := [.int .u8 0]) rfl (fun bz wz xz az hbz => ?_))|(refine st_build (d := some 22) (cs := psmCs zW0 (.slice (some ⟨bz, 0, none⟩) 1 1)) rfl ?_)|(refine zI (d := some 23) (cs := [.int .u8 0]) rfl (fun by2 wy xy ay hby => ?_))|(refine st_build (d := some 24) (cs := psmCs zW2 (.slice (some ⟨by2, 0, none⟩) 1 1)) rfl ?_)|(refine zC (d := some 25) rfl (two_spec (N := []) (V := coinsW) (a := zW0) (b := zW2) (B := 5242800) _ (SlE.ext (w := w2) (by exact fx) hv2) ⟨_, rfl, SlE.toR (F := u8E) (SlE.new (E := u8E) (l := [0]) (At.ext xy az) rfl (Nat.le_refl _)) (by simp), by decide, by decide⟩ ⟨_, rfl, SlE.toR (F := u8E) (SlE.new (E := u8E) (l := [0]) ay rfl (Nat.le_refl _)) (by simp), by decide, by decide⟩ (by have := coinsW_ok.len; omega) (fun e he => ⟨(coinsW_ok.each e he).2.2.1, by have := (coinsW_ok.each e he).2.2.2.1; omega⟩) (by decide) (fun e he => by rw [(coinsW_ok.each e he).2.1]; exact is32_0) (by simp)) ?_; rintro _ w5 ⟨ts, us, rfl, t5, u5, x5⟩)|(first|refine go1 ?_|refine zg (fun _ _=>?_)|refine zi (fun _ _=>?_)))
  rw [aW_eq] at t5 u5
  rw [bW_eq] at u5
  obtain ⟨iv, ov, rfl, p1, p2, p3⟩ := id t5
  obtain ⟨iv2, ov2, rfl, q1, q2, q3⟩ := id u5
  have e1 := p1.one
  have e2 := p2.one
  have e3 := q1.one
  have e4 := q2.one
  have s35 := x3.size
  have l4 := a4.lt
  have l5 : bs < w5.heap.size := Nat.lt_of_lt_of_le l4 (Ext.size (show Ext w4 w5 by exact fx))
  have r5 : Row w5 ⟨bs, 0, none⟩ [.iface T.P_coins_Set (.pointer (some ⟨b, 0, none⟩)), .int .i64 5, .int .i64 0] := Row.ext (show Ext w4 w5 by exact fx) r4
  have S5 := hS3.ext (show Ext w3 w5 by exact fx)
  have x25 : Ext w2 w5 := by exact fx
  have x05 : Unit → Ext w w5 := fun _ => (x02 ()).trans x25
  clear x25 x5 xy xz x4 x3 a4 r4 az ay hS3 x02
  repeat' (first|(refine zH (d := some 3) (fun b3 w6 x6 a6 hb6 => ?_))|(refine zH (d := some 4) (fun b4 w7 x7 a7 hb7 => ?_))|(refine st_setN (w0 := w5) (b := b3) (n := 4) (vs := txCs aW iv ov) (x6.trans x7) hb6 (At.ext x7 a6) rfl rfl rfl rfl (by simp [txCs, e1, e2]; exact ⟨rfl, rfl⟩) (fun w8 x8 c8 a8 r8 => ?_))|(refine st_setN (w0 := w5) (b := b4) (n := 4) (vs := txCs bW iv2 ov2) x8 (by have := x6.size; omega) (At.chg c8 a7 (by have := a6.lt; simp; omega)) rfl rfl rfl rfl (by simp [txCs, e3, e4]; exact ⟨rfl, rfl⟩) (fun w9 x9 c9 a9 r9 => ?_))|(first|refine go1 ?_|refine zg (fun _ _=>?_)|refine zi (fun _ _=>?_)))
  have l6 := a6.lt
  have r89 : Row w9 ⟨b3, 0, none⟩ (txCs aW iv ov) := Row.chg c9 r8 (by simp; omega)
  have lb3 := a8.lt
  have lb3 : b3 < w9.heap.size := Nat.lt_of_lt_of_le lb3 c9.size
  have lb4 := a9.lt
  have r59 := Row.ext x9 r5
  have l9 : bs < w9.heap.size := Nat.lt_of_lt_of_le l5 x9.size
  have S9 := S5.ext x9
  have t9 := R.ext t5 x9
  have u9 := R.ext u5 x9
  have x09 : Unit → Ext w w9 := fun _ => (x05 ()).trans x9
  clear x6 x7 x8 x9 c8 c9 a6 a7 a8 a9 r8 r5 S5 t5 u5 x05
  refine zC rfl (new_spec _) ?_
  rintro _ w10 ⟨g, M, rfl, G10, x10⟩
  have hM10 := G10.lt
  have hB10 := G10.base
  have anchor : ∀ {w' : World}, Ext w9 w' → Row w' ⟨b3, 0, none⟩ (txCs aW iv ov) ∧ Row w' ⟨b4, 0, none⟩ (txCs bW iv2 ov2) ∧ Row w' ⟨bs, 0, none⟩ [.iface T.P_coins_Set (.pointer (some ⟨b, 0, none⟩)), .int .i64 5, .int .i64 0] ∧ ViewR w' (.iface T.P_coins_Set (.pointer (some ⟨b, 0, none⟩))) (aget coinsW) ∧ (∀ N : List Nat, (∀ b ∈ N, w9.heap.size ≤ b) → txR.rel N w' (txCs aW iv ov) aW ∧ txR.rel N w' (txCs bW iv2 ov2) bW) := fun x =>
    ⟨Row.ext x r89, Row.ext x r9, Row.ext x r59, ViewR.of_set (S9.ext x) (fun e he => by rw [(coinsW_ok.each e he).2.2.2.2.1]; decide), fun N hN => ⟨R.step txR t9 x (by simp) (fun b hb => .inr (hN b hb)), R.step txR u9 x (by simp) (fun b hb => .inr (hN b hb))⟩⟩
  obtain ⟨A1, A2, A3, A4, A5⟩ := anchor x10
  obtain ⟨A6, A7⟩ := A5 M hB10
  clear A5 r89 r9 r59
  repeat' (first|(refine zC (d := some 33) rfl (accept_gu (M := M) (U := []) (N := M) (l := []) (f := aget coinsW) (cs := txCs aW iv ov) (t := aW) 5 0 _ ((GrU.of G10).ext (by exact fx)) (by simp) (by simp) (A4.ext (by exact fx)) (R.ext A6 (by exact fx)) aW_sm (fun b hb => Nat.lt_of_lt_of_le (hM10 b hb) (Ext.size (by exact fx))) (fun _ h => h) (by simp) (by simp)) ?_; rintro _ w11 ⟨u1, er1, M1, rfl, hu1, he1, G11, c11, hM11, -⟩)|(first|refine go1 ?_|refine zg (fun _ _=>?_)|refine zi (fun _ _=>?_)))
  rw [aW_1.2] at G11
  rw [aW_0] at he1
  obtain rfl := errR_num he1 (by decide)
  have x911 : Ext w9 w11 := (Ext.chg x10 c11).mono (fun b hb => .inr (hB10 b hb))
  obtain ⟨B1, B2, B3, B4, B5⟩ := anchor x911
  have hB11 := G11.gr.base
  have hM11' := G11.gr.lt
  obtain ⟨B6, B7⟩ := B5 M1 hB11
  have x911' : Unit → Ext w9 w11 := fun _ => x911
  clear B5 A1 A2 A3 A4 A6 A7 x911 c11 x10 he1 hu1 hM11 hM10 hB10 G10
  repeat' (first|(refine zC (d := some 41) rfl (pair_spec (M := M1) (U := []) (N := M1) (l := []) (f := aget coinsW) (cs := txCs aW iv ov) (ds := txCs bW iv2 ov2) (a := aW) (b := bW) 5 0 _ (G11.ext (by exact fx)) (by simp) (by simp) (B4.ext (by exact fx)) (R.ext B6 (by exact fx)) aW_sm (R.ext B7 (by exact fx)) bW_sm (fun b hb => Nat.lt_of_lt_of_le (hM11' b hb) (Ext.size (by exact fx))) (fun _ h => h) (by simp) (by simp) (fun _ _ => wpz)) ?_; rintro _ w12 ⟨u2, er2, M2, rfl, hu2, he2, G12, c12, hM12, -⟩)|(first|refine go1 ?_|refine zg (fun _ _=>?_)|refine zi (fun _ _=>?_)))
  rw [wp_ok.2.2] at G12
  rw [wp_ok.2.1] at hu2
  rw [wp_ok.1] at he2
  obtain ⟨rfl, -⟩ := he2.nil_iff.1 rfl
  have x912 : Ext w9 w12 := (Ext.chg (x911' ()) c12).mono (fun b hb => .inr (hB11 b hb))
  obtain ⟨C1, C2, C3, -, -⟩ := anchor x912
  have hM12' := G12.gr.lt
  have hu12 := hu2.sl
  have x012 : Unit → Ext w w12 := fun _ => (x09 ()).trans x912
  clear B1 B2 B3 B4 B6 B7 x912 c12 he2 hu2 hM12 hM11' hB11 G11 anchor
  repeat' (first|(refine zC (d := some 48) rfl (pair_nil (a := aW) (b := bW) (.iface T.P_coins_Set (.pointer (some ⟨b, 0, none⟩))) 5 0 rfl rfl e1 e2 e3 e4 rfl _) ?_; rintro _ w13 ⟨rfl, x13⟩)|(refine zC (d := some 55) rfl (errIs_same 11 _) ?_; rintro _ w14 ⟨rfl, rfl⟩)|(refine st_len (d := some 62) rfl (SlE.ext (w := w12) (by exact fx) hu12) ?_)|(refine zC (d := some 52) rfl (all_spec (M := M2) (l := [newE aW 0, newE bW 400]) _ (G12.ext (by exact fx)).gr.r (fun b hb => Nat.lt_of_lt_of_le (hM12' b hb) (Ext.size (by exact fx))) (by simp)) ?_; rintro u14 w14 ⟨o14, x14⟩; have o14 := (o14.sub (M' := []) (by simp)).sl (by simp))|(refine zG (d := some 67) (E := entR) (M := []) (l := [newE aW 0, newE bW 400]) rfl (o14.ext (by exact fx)) ?_)|(refine st_elemR (d := some 72) (E := entR) (M := []) rfl rfl (n := 0) (l := [newE aW 0, newE bW 400]) (o14.ext (by exact fx)) rfl (by simp) (fun ad cs r6 he => ?_); obtain ⟨iv6, ov6, rfl, g16, g26, g36⟩ := he)|(refine st_elemR (d := some 79) (E := entR) (M := []) rfl rfl (n := 1) (l := [newE aW 0, newE bW 400]) (o14.ext (by exact fx)) rfl (by simp) (fun ad7 cs7 r7 he => ?_); obtain ⟨iv7, ov7, rfl, g17, g27, g37⟩ := he)|(refine zC (d := some 87) rfl (errIs_same 1 _) ?_; rintro _ w16 ⟨rfl, rfl⟩)|(first|refine go1 ?_|refine zg (fun _ _=>?_)|refine zi (fun _ _=>?_)))
  exact x_ret rfl ⟨rfl, (x012 ()).trans (by exact fx)⟩
end Go.Proofs.YtilhlcnekkkajaaGreat
end
section
namespace Go.K
open Go Go.Proofs.YtilhlcnekkkajaaGreat
theorem above_snoc {l : List Ent} {x : Ent} {t : Tx} (h : aboveS (l ++ [x]) t l.length = false) : idsOf (l ++ [x]) (aboveL (l ++ [x]) t) = idsOf l (aboveL l t) := by
  have hl : (l ++ [x]).length = l.length + 1 := by simp
  have he : (l ++ [x]).eraseIdx l.length = l := by
    rw [List.eraseIdx_append_of_length_le (Nat.le_refl _)]; simp
  have hA : aboveL ((l ++ [x]).eraseIdx l.length) t = (aboveL (l ++ [x]) t).eraseIdx l.length := by
    have hlen : ((l ++ [x]).eraseIdx l.length).length = (l ++ [x]).length - 1 := by rw [he, hl]; rfl
    unfold aboveL
    rw [hlen]
    refine reachL_less (by omega) (fun j hj => ?_) (fun k j hk hj => ?_) (fun i hi hne h1 => ?_)
    · rw [entD_erase hj]
    · unfold hangE; rw [entD_erase hj, entD_erase hk]
    · unfold aboveS at h; rw [h] at h1; cases h1
  have hal : (aboveL (l ++ [x]) t).length = l.length + 1 := by unfold aboveL; rw [reachL_length, hl]
  have hAq : (aboveL (l ++ [x]) t)[l.length]'(by omega) = false := by
    unfold aboveL reachL
    rw [List.getElem_map, List.getElem_range]; exact h
  have h2 := idsOf_erase (l := l ++ [x]) (m := aboveL (l ++ [x]) t) (q := l.length) (by omega) (by omega) hAq
  rw [← hA, he] at h2
  exact h2.symm
theorem above_with {W : List Ent} {x : Ent} {t : Tx} {s : ByteArray} (hn : ((W ++ [x]).map (·.id)).Nodup) (h3 : idsOf (W ++ [x]) (aboveL (W ++ [x]) t) = [s]) (hne : x.id ≠ s) : idsOf W (aboveL W t) = [s] := by
  rw [← h3]
  refine (above_snoc ?_).symm
  by_cases e : aboveS (W ++ [x]) t W.length = true
  · have hlt : W.length < (W ++ [x]).length := by simp
    have h5 := (mem_reach (p := aboveS (W ++ [x]) t) hn hlt).2 e
    have h6 : idsOf (W ++ [x]) (List.map (aboveS (W ++ [x]) t) (List.range (W ++ [x]).length)) = [s] := h3
    rw [h6, List.mem_singleton, List.getElem_append_right (Nat.le_refl _)] at h5
    exact absurd (by simpa using h5) hne
  · simpa using e
theorem ev_nil {l : List Ent} {t : Tx} (hn : (l.map (·.id)).Nodup) (h : idsOf l (evL l t) = []) : (idsOf l (confL l t)).length = 0 := by
  rw [conf_len0, List.any_eq_false]
  intro x hx hh
  obtain ⟨k, hk, rfl⟩ := List.getElem_of_mem hx
  have : l[k].id ∈ idsOf l (evL l t) := (mem_ev hn).2 ⟨l[k], hx, hh, (mem_below hn hk).2 ((belowS_iff hn hk hk).2 (.inl rfl))⟩
  rw [h] at this; cases this
theorem acc_alone {f : Pt → Option Cn} {l : List Ent} {t : Tx} {h rate : Int} (hn : (l.map (·.id)).Nodup) (h0 : (accE f l t h rate).1 = 0) (h1 : accIds f l t h rate = []) :
    (aloneP f l t h).2.1 = 0 ∧ askedF rate (sizeT t) ≤ (aloneP f l t h).1 ∧ accL f l t h rate = withL f l t h ∧ checkT t = 0 ∧ hasE l (idT t) = false := by
  obtain ⟨a1, a2, a3, a4⟩ := acc_zero h0
  obtain ⟨b1, b2, b3⟩ := acc_new hn h0
  rw [b1] at h1
  have er : restL l t = l := by unfold restL; rw [h1]; rfl
  rw [er] at a4 b2
  obtain ⟨hc, -, hh, -⟩ := plain_good a1
  have e := aloneP_ok a1 (by rw [ev_nil hn h1]; decide) a4
  refine ⟨by rw [e], by rw [e]; exact a2, ?_, hc, hh⟩
  rw [b3, ← b2]
  unfold withL
  rw [e]
theorem asked_zero (n : Nat) : askedF 0 n = (n : Nat) := by
  unfold askedF
  have e : (min (max (0 : Int) 1000) 100000000).toNat = 1000 := by decide
  rw [e]
  omega
theorem alone_pair {f : Pt → Option Cn} {l : List Ent} {a b : Tx} {h : Int} (hn : (l.map (·.id)).Nodup) (hE : ∀ x ∈ l, EntOk x) (h1 : (accE f l a h 0).1 = 0) (h1' : accIds f l a h 0 = []) (h2 : (accE f (accL f l a h 0) b h 0).1 = 0) (h2' : accIds f (accL f l a h 0) b h 0 = []) (hn2 : ((accL f l a h 0).map (·.id)).Nodup) (hn3 : ((accL f (accL f l a h 0) b h 0).map (·.id)).Nodup)
    (h3 : idsOf (accL f (accL f l a h 0) b h 0) (aboveL (accL f (accL f l a h 0) b h 0) b) = [idS a]) :
    (pairE f l a b h 0).1 = 0 ∧ pairL f l a b h 0 = accL f (accL f l a h 0) b h 0 := by
  obtain ⟨p1, p2, p3, p4, p5⟩ := acc_alone hn h1 h1'
  obtain ⟨q1, q2, q3, q4, q5⟩ := acc_alone hn2 h2 h2'
  rw [q3] at h3 hn3 ⊢
  rw [p3] at q1 q2 q5 h3 hn3 ⊢
  have hia : idS a = idT a := idS_ok p4
  have hno : ¬ hasE l (idS a) = true := by rw [hia, p5]; decide
  have h4 : idsOf (withL f l a h) (aboveL (withL f l a h) b) = [idS a] := by
    refine above_with (x := newE b (aloneP f (withL f l a h) b h).1) hn3 h3 fun h7 => ?_
    have h7 : idT b = idS a := h7
    have : hasE (withL f l a h) (idT b) = true := by
      rw [h7, hia]
      unfold withL hasE
      simp [newE]
    rw [q5] at this; cases this
  have h5 : ¬ (aloneP f l a h).1 + (aloneP f (withL f l a h) b h).1 < askedF 0 (sizeT a + sizeT b) := by
    rw [asked_zero] at p2 q2 ⊢
    omega
  obtain ⟨e1, -, e3⟩ := pair_ok (rate := 0) hno p1 h4 q1 h5
  exact ⟨by rw [e1], by rw [e3]; rfl⟩
end Go.K
end
section
namespace Go.Proofs.YtilhlcnekkkajaaGreat
open Go Go.K
attribute [local irreducible] regK codeK retK KOp.wp K.Spec u32 leS vnS str zero32 sha2 encT idT sizeT checkT grantB
end Go.Proofs.YtilhlcnekkkajaaGreat
end
section
namespace Go.Proofs.YtilhlcnekkkajaaGreat
open Go Go.K
theorem overL_short {V : List En} {l : List Ent} (hV : V.length ≤ 8) (hl : l.length ≤ 10) (hE : ∀ x ∈ l, EntOk x) (h : Int) : (overL V l h).length ≤ 20000 := by
  have h2 := flat_len' (V := V) (h := h) (fun x hx => ent_outs (hE x hx))
  unfold overL
  rw [List.length_append]; omega
attribute [local irreducible] regK codeK retK KOp.wp K.Spec u32 leS vnS str zero32 sha2 encT idT sizeT checkT grantB idN stepR workL reachE findI dropG addG aboveL belowL idsOf feeD sizeD cntS metL confL evL inS inB needI needL feeOf needN needE mayE freshP rulesL fitsL feeP dustI numAt byteAt plainP dropAll accE accIds accL askedF makeP coinsP coinsW overL monB outAt overV refFind
abbrev termCs' (b : Nat) (h rate : Int) : List Value := [.iface T.P_coins_Set (.pointer (some ⟨b, 0, none⟩)), .int .i64 h, .int .i64 rate]
end Go.Proofs.YtilhlcnekkkajaaGreat
end
