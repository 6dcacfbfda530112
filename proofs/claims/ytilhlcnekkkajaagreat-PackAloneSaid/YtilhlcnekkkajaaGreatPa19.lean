/- Contracts: ids and sizes; copies; slices of texts. -/
import Derived.Test.YtilhlcnekkkajaaGreatPa18
set_option linter.unusedVariables false
set_option linter.unusedSimpArgs false
section
namespace Go.Proofs.YtilhlcnekkkajaaGreat
open Go Go.K
attribute [local irreducible] regK codeK retK KOp.wp K.Spec u32 leS vnS str zero32 sha2 encT idT

def idV (t : Tx) : Value := if checkT t = 0 then .tuple #[.string (idT t), .int .i64 0] else .tuple #[.string ⟨#[]⟩, .int .i64 (checkT t)]
def weightV (t : Tx) : Value := if checkT t = 0 then .tuple #[.int .i64 (weightT t : Nat), .int .i64 0] else .tuple #[.int .i64 0, .int .i64 (checkT t)]
def sizeV (t : Tx) : Value := if checkT t = 0 then .tuple #[.int .i64 (sizeT t : Nat), .int .i64 0] else .tuple #[.int .i64 0, .int .i64 (checkT t)]
theorem id_spec {M : List Nat} {cs : List Value} {t : Tx} (w : World) (ht : txR.rel M w cs t) (hs : t.Sm) : K.Spec Tryz.prog F.ident_ID [.agg cs.toArray] w fun r w' => r = idV t ∧ Ext w w' := by
  have ht0 := ht
  obtain ⟨iv, ov, rfl, hi, ho, hv, hl⟩ := ht
  by_cases hc : checkT t = 0
  · have hz := sz_of_check hs hc
    rw [idV, if_pos hc]
    refine s_ident_ID rfl ?_
    unfold k_ident_ID
    refine oy ?_
    repeat' (first|(first|refine go1 ?_|refine zg (fun _ _=>?_)|refine zi (fun _ _=>?_))|(first|refine zD rfl rfl (fun bp wp xp ap rp hp0=>?_)|refine zE (fun _=>rfl) rfl rfl rfl (fun bq wq xq aq rq hq0=>?_))|refine zN rfl (fun h => ?_) (fun h => ?_)|(refine zC rfl (bare_spec (M := M) _ (cs := txCs t iv ov) (by exact fx) hs) ?_; rintro _ w1 ⟨rfl, x1⟩; rw [bareV, if_pos hc])|(refine zC rfl (twice_spec (encT false t) (by have := hz.all false; omega) _) ?_; rintro _ w2 ⟨rfl, x2⟩))
    all_goals first
      | exact x_ret rfl ⟨by rw [idT]; rfl, by exact fx⟩
      | exact absurd rfl (by assumption)
  · rw [idV, if_neg hc]
    refine s_ident_ID rfl ?_
    unfold k_ident_ID
    refine oy ?_
    repeat' (first|(first|refine go1 ?_|refine zg (fun _ _=>?_)|refine zi (fun _ _=>?_))|(first|refine zD rfl rfl (fun bp wp xp ap rp hp0=>?_)|refine zE (fun _=>rfl) rfl rfl rfl (fun bq wq xq aq rq hq0=>?_))|refine zN rfl (fun h => ?_) (fun h => ?_)|(refine zC rfl (bare_spec (M := M) _ (cs := txCs t iv ov) (by exact fx) hs) ?_; rintro _ w1 ⟨rfl, x1⟩; rw [bareV, if_neg hc]))
    all_goals first
      | exact x_ret rfl ⟨rfl, by exact fx⟩
      | exact absurd (by assumption) hc
theorem weight_spec {M : List Nat} {cs : List Value} {t : Tx} (w : World) (ht : txR.rel M w cs t) (hs : t.Sm) : K.Spec Tryz.prog F.ident_Weight [.agg cs.toArray] w fun r w' => r = weightV t ∧ Ext w w' := by
  have ht0 := ht
  obtain ⟨iv, ov, rfl, hi, ho, hv, hl⟩ := ht
  by_cases hc : checkT t = 0
  · have hz := sz_of_check hs hc
    have h1 := hz.all false
    have h2 := hz.all (witB t)
    rw [weightV, if_pos hc]
    refine s_ident_Weight rfl ?_
    unfold k_ident_Weight
    refine oy ?_
    repeat' (first|(refine st_mul rfl rfl (by omega) ?_)|(first|refine go1 ?_|refine zg (fun _ _=>?_)|refine zi (fun _ _=>?_))|(first|refine zD rfl rfl (fun bp wp xp ap rp hp0=>?_)|refine zE (fun _=>rfl) rfl rfl rfl (fun bq wq xq aq rq hq0=>?_))|refine zN rfl (fun h => ?_) (fun h => ?_)|(refine zC rfl (bare_spec (M := M) _ (cs := txCs t iv ov) (by exact fx) hs) ?_; rintro _ w1 ⟨rfl, x1⟩; rw [bareV, if_pos hc])|(refine zC rfl (encodeE_spec (M := M) _ (cs := txCs t iv ov) (by exact fx) hs) ?_; rintro _ w2 ⟨rfl, x2⟩; rw [bareV, if_pos hc]))
    all_goals first
      | exact x_ret rfl ⟨congrArg (fun n : Int => Value.tuple #[.int .i64 n, .int .i64 0]) (by rw [weightT]; omega), by exact fx⟩
      | exact absurd rfl (by assumption)
  · rw [weightV, if_neg hc]
    refine s_ident_Weight rfl ?_
    unfold k_ident_Weight
    refine oy ?_
    repeat' (first|(first|refine go1 ?_|refine zg (fun _ _=>?_)|refine zi (fun _ _=>?_))|(first|refine zD rfl rfl (fun bp wp xp ap rp hp0=>?_)|refine zE (fun _=>rfl) rfl rfl rfl (fun bq wq xq aq rq hq0=>?_))|refine zN rfl (fun h => ?_) (fun h => ?_)|(refine zC rfl (bare_spec (M := M) _ (cs := txCs t iv ov) (by exact fx) hs) ?_; rintro _ w1 ⟨rfl, x1⟩; rw [bareV, if_neg hc]))
    all_goals first
      | exact x_ret rfl ⟨rfl, by exact fx⟩
      | exact absurd (by assumption) hc
theorem size_spec {M : List Nat} {cs : List Value} {t : Tx} (w : World) (ht : txR.rel M w cs t) (hs : t.Sm) : K.Spec Tryz.prog F.ident_Size [.agg cs.toArray] w fun r w' => r = sizeV t ∧ Ext w w' := by
  have ht0 := ht
  obtain ⟨iv, ov, rfl, hi, ho, hv, hl⟩ := ht
  by_cases hc : checkT t = 0
  · have hz := sz_of_check hs hc
    have h1 := hz.weight
    rw [sizeV, if_pos hc]
    refine s_ident_Size rfl ?_
    unfold k_ident_Size
    refine oy ?_
    repeat' (first|(refine st_quo (n := weightT t + 3) (m := 4) (congrArg (Value.int .i64) (by omega)) rfl (by decide) (by omega) ?_)|(first|refine go1 ?_|refine zg (fun _ _=>?_)|refine zi (fun _ _=>?_))|(first|refine zD rfl rfl (fun bp wp xp ap rp hp0=>?_)|refine zE (fun _=>rfl) rfl rfl rfl (fun bq wq xq aq rq hq0=>?_))|(refine zC rfl (weight_spec (M := M) _ (cs := txCs t iv ov) (by exact fx) hs) ?_; rintro _ w1 ⟨rfl, x1⟩; rw [weightV, if_pos hc]))
    exact x_ret rfl ⟨rfl, by exact fx⟩
  · rw [sizeV, if_neg hc]
    refine s_ident_Size rfl ?_
    unfold k_ident_Size
    refine oy ?_
    repeat' (first|(first|refine go1 ?_|refine zg (fun _ _=>?_)|refine zi (fun _ _=>?_))|(first|refine zD rfl rfl (fun bp wp xp ap rp hp0=>?_)|refine zE (fun _=>rfl) rfl rfl rfl (fun bq wq xq aq rq hq0=>?_))|(refine zC rfl (weight_spec (M := M) _ (cs := txCs t iv ov) (by exact fx) hs) ?_; rintro _ w1 ⟨rfl, x1⟩; rw [weightV, if_neg hc]))
    exact x_ret rfl ⟨rfl, by exact fx⟩
theorem cloneS_spec {M : List Nat} {v : Value} {l : List ByteArray} (w : World) (hs : SlR strR M w v l) (hn : l.length ≤ 100000000) (hM : ∀ b ∈ M, b < w.heap.size) : K.Spec Tryz.prog F.slices_Clone_L_string_string [v] w fun r w' => OwnR strR T.string w.heap.size M w' r l ∧ Ext w w' := by
  have hs0 := hs
  obtain ⟨base, cap, rfl⟩ := hs.form
  cases base with
  | none =>
    have hl := hs.nil_of
    subst hl
    refine s_slices_Clone_L_string_string rfl ?_
    unfold k_slices_Clone_L_string_string
    refine oy ?_
    repeat (first|refine go ?_|refine zg (fun _ _=>?_)|refine zi (fun _ _=>?_))
    exact x_ret rfl ⟨OwnR.nil _ _ _ _, Ext.refl _⟩
  | some a =>
    refine s_slices_Clone_L_string_string rfl ?_
    unfold k_slices_Clone_L_string_string
    refine oy ?_
    repeat (first|refine go ?_|refine zg (fun _ _=>?_)|refine zi (fun _ _=>?_))
    refine zI (cs := []) rfl (fun b w1 x1 a1 hb => ?_)
    repeat (first|refine go ?_|refine zg (fun _ _=>?_)|refine zi (fun _ _=>?_))
    obtain ⟨css, h1, h2, _⟩ := hs0
    have hown : OwnR strR T.string w.heap.size M w1 (.slice (some ⟨b, 0, none⟩) 0 0) [] := OwnR.empty hb a1
    have hall : (strR).all (blkOf (.slice (some ⟨b, 0, none⟩) 0 0) ++ M) w1 css l := h2.mono fun _ _ hr => (strR).step hr x1 (by simp) (fun c hc => by
      rcases List.mem_append.1 hc with h | h
      · simp [blkOf] at h; right; omega
      · exact .inl h)
    refine st_appendR (E := strR) (M := M) (v := .slice (some ⟨b, 0, none⟩) 0 0) rfl hown x1.size rfl rfl (h1.ext x1).cells rfl hall h2.length (by simp; omega) (fun v2 w2 ho2 c2 hb2 => ?_)
    repeat (first|refine go ?_|refine zg (fun _ _=>?_)|refine zi (fun _ _=>?_))
    exact x_ret rfl ⟨ho2, (Ext.chg x1 c2).mono (by intro y hy; simp [blkOf] at hy; subst hy; exact .inr hb)⟩
theorem cloneI_spec {M : List Nat} {v : Value} {l : List TIn} (w : World) (hs : SlR inR M w v l) (hn : l.length ≤ 100000000) (hM : ∀ b ∈ M, b < w.heap.size) : K.Spec Tryz.prog F.slices_Clone_L_api_In_api_In [v] w fun r w' => OwnR inR T.api_In w.heap.size M w' r l ∧ Ext w w' := by
  have hs0 := hs
  obtain ⟨base, cap, rfl⟩ := hs.form
  cases base with
  | none =>
    have hl := hs.nil_of
    subst hl
    refine s_slices_Clone_L_api_In_api_In rfl ?_
    unfold k_slices_Clone_L_api_In_api_In
    refine oy ?_
    repeat (first|refine go ?_|refine zg (fun _ _=>?_)|refine zi (fun _ _=>?_))
    exact x_ret rfl ⟨OwnR.nil _ _ _ _, Ext.refl _⟩
  | some a =>
    refine s_slices_Clone_L_api_In_api_In rfl ?_
    unfold k_slices_Clone_L_api_In_api_In
    refine oy ?_
    repeat (first|refine go ?_|refine zg (fun _ _=>?_)|refine zi (fun _ _=>?_))
    refine zI (cs := []) rfl (fun b w1 x1 a1 hb => ?_)
    repeat (first|refine go ?_|refine zg (fun _ _=>?_)|refine zi (fun _ _=>?_))
    obtain ⟨css, h1, h2, _⟩ := hs0
    have hown : OwnR inR T.api_In w.heap.size M w1 (.slice (some ⟨b, 0, none⟩) 0 0) [] := OwnR.empty hb a1
    have hall : (inR).all (blkOf (.slice (some ⟨b, 0, none⟩) 0 0) ++ M) w1 css l := h2.mono fun _ _ hr => (inR).step hr x1 (by simp) (fun c hc => by
      rcases List.mem_append.1 hc with h | h
      · simp [blkOf] at h; right; omega
      · exact .inl h)
    refine st_appendR (E := inR) (M := M) (v := .slice (some ⟨b, 0, none⟩) 0 0) rfl hown x1.size rfl rfl (h1.ext x1).cells rfl hall h2.length (by simp; omega) (fun v2 w2 ho2 c2 hb2 => ?_)
    repeat (first|refine go ?_|refine zg (fun _ _=>?_)|refine zi (fun _ _=>?_))
    exact x_ret rfl ⟨ho2, (Ext.chg x1 c2).mono (by intro y hy; simp [blkOf] at hy; subst hy; exact .inr hb)⟩
theorem cloneO_spec {M : List Nat} {v : Value} {l : List TOut} (w : World) (hs : SlR outR M w v l) (hn : l.length ≤ 100000000) (hM : ∀ b ∈ M, b < w.heap.size) : K.Spec Tryz.prog F.slices_Clone_L_api_Out_api_Out [v] w fun r w' => OwnR outR T.api_Out w.heap.size M w' r l ∧ Ext w w' := by
  have hs0 := hs
  obtain ⟨base, cap, rfl⟩ := hs.form
  cases base with
  | none =>
    have hl := hs.nil_of
    subst hl
    refine s_slices_Clone_L_api_Out_api_Out rfl ?_
    unfold k_slices_Clone_L_api_Out_api_Out
    refine oy ?_
    repeat (first|refine go ?_|refine zg (fun _ _=>?_)|refine zi (fun _ _=>?_))
    exact x_ret rfl ⟨OwnR.nil _ _ _ _, Ext.refl _⟩
  | some a =>
    refine s_slices_Clone_L_api_Out_api_Out rfl ?_
    unfold k_slices_Clone_L_api_Out_api_Out
    refine oy ?_
    repeat (first|refine go ?_|refine zg (fun _ _=>?_)|refine zi (fun _ _=>?_))
    refine zI (cs := []) rfl (fun b w1 x1 a1 hb => ?_)
    repeat (first|refine go ?_|refine zg (fun _ _=>?_)|refine zi (fun _ _=>?_))
    obtain ⟨css, h1, h2, _⟩ := hs0
    have hown : OwnR outR T.api_Out w.heap.size M w1 (.slice (some ⟨b, 0, none⟩) 0 0) [] := OwnR.empty hb a1
    have hall : (outR).all (blkOf (.slice (some ⟨b, 0, none⟩) 0 0) ++ M) w1 css l := h2.mono fun _ _ hr => (outR).step hr x1 (by simp) (fun c hc => by
      rcases List.mem_append.1 hc with h | h
      · simp [blkOf] at h; right; omega
      · exact .inl h)
    refine st_appendR (E := outR) (M := M) (v := .slice (some ⟨b, 0, none⟩) 0 0) rfl hown x1.size rfl rfl (h1.ext x1).cells rfl hall h2.length (by simp; omega) (fun v2 w2 ho2 c2 hb2 => ?_)
    repeat (first|refine go ?_|refine zg (fun _ _=>?_)|refine zi (fun _ _=>?_))
    exact x_ret rfl ⟨ho2, (Ext.chg x1 c2).mono (by intro y hy; simp [blkOf] at hy; subst hy; exact .inr hb)⟩
/-- A transaction that has slices of its own, all from B on. -/
def txO (B : Nat) (M : List Nat) (w : World) (cs : List Value) (t : Tx) : Prop := ∃ iv ov, cs = txCs t iv ov ∧ OwnR inR T.api_In B M w iv t.ins ∧ OwnR outR T.api_Out B M w ov t.outs ∧ is32 t.ver ∧ is32 t.lock
theorem txO.rel {B : Nat} {M : List Nat} {w : World} {cs : List Value} {t : Tx} (h : txO B M w cs t) (hM : ∀ b ∈ M, b < B) : txR.rel M w cs t := by
  obtain ⟨iv, ov, rfl, h1, h2, h3⟩ := h
  exact ⟨iv, ov, rfl, h1.slB hM, h2.slB hM, h3⟩
theorem mem_app {L M : List Nat} {w : World} (h : ∀ b ∈ L, w.heap.size ≤ b) : ∀ b ∈ L ++ M, b ∈ M ∨ w.heap.size ≤ b := fun b hb => by
  rcases List.mem_append.1 hb with h1 | h1
  · exact .inr (h b h1)
  · exact .inl h1
set_option maxHeartbeats 2000000 in
theorem txcopy_spec {M : List Nat} {cs : List Value} {t : Tx} (w : World) (ht : txR.rel M w cs t) (hs : t.Sm) (hM : ∀ b ∈ M, b < w.heap.size) : K.Spec Tryz.prog F.tx_Copy [.agg cs.toArray] w fun r w' => ∃ cs', r = .agg cs'.toArray ∧ txO w.heap.size M w' cs' t ∧ Ext w w' := by
  have ht0 := ht
  obtain ⟨iv, ov, rfl, hi, ho, hv, hl⟩ := ht
  have hs1 := hs.ins
  have hs2 := hs.outs
  refine s_tx_Copy rfl ?_
  unfold k_tx_Copy
  refine oy ?_
  repeat' (first|(first|refine go1 ?_|refine zg (fun _ _=>?_)|refine zi (fun _ _=>?_))|(first|refine zD rfl rfl (fun bp wp xp ap rp hp0=>?_)|refine zE (fun _=>rfl) rfl rfl rfl (fun bq wq xq aq rq hq0=>?_)))
  refine zH (fun b2 w2 x2 a2 hb2 => ?_)
  have lp := ap.lt
  have l2 := a2.lt
  have sp := xp.size
  have s2 := x2.size
  have xw : Unit → Ext w w2 := fun _ => xp.trans x2
  obtain ⟨M1, hM1⟩ : ∃ M1, M1 = [b2, bp] ++ M := ⟨_, rfl⟩
  have hmem : ∀ b ∈ M1, b ∈ M ∨ w.heap.size ≤ b := by
    rw [hM1]; exact mem_app (fun y hy => by simp at hy; omega)
  have hi1 : SlR inR M1 w2 iv t.ins := hi.step (xw ()) (by simp) hmem
  have ho1 : SlR outR M1 w2 ov t.outs := ho.step (xw ()) (by simp) hmem
  have hM1b : ∀ b ∈ M1, b < w2.heap.size := by
    intro y hy; rw [hM1] at hy; simp at hy
    rcases hy with h | h | h
    · omega
    · omega
    · have := hM y h; omega
  have mb : bp ∈ M1 := by rw [hM1]; simp
  have m2 : b2 ∈ M1 := by rw [hM1]; simp
  have mM : ∀ b ∈ M, b ∈ M1 := by intro y hy; rw [hM1]; simp [hy]
  repeat' (first|(first|refine go1 ?_|refine zg (fun _ _=>?_)|refine zi (fun _ _=>?_))|refine zB ?_ ?_|(refine zC rfl (cloneI_spec (M := M1) (l := t.ins) _ (by exact fx) (by omega) (fun b hb => Nat.lt_of_lt_of_le (hM1b b hb) (Ext.size (by exact fx)))) ?_; rintro v1 w3 ⟨hv1, x3⟩; have l1 := hv1.lt; have hv1 := hv1.lower (B' := w2.heap.size) (by first | exact Nat.le_refl _ | (apply Ext.size; assumption)); have g1 := hv1.base; have x23 : Ext w2 w3 := (by exact fx))|(refine zC rfl (cloneO_spec (M := blkOf v1 ++ M1) (l := t.outs) _ (ho1.step x23 (by simp) (mem_app g1)) (by omega) (fun b hb => ?_)) ?_)|(rcases List.mem_append.1 hb with h | h;exact l1 b h;exact Nat.lt_of_lt_of_le (hM1b b h) (Ext.size (by exact fx)))|(rintro v2 w4 ⟨hv2, x4⟩; have g2 := hv2.base; have x24 : Ext w2 w4 := (by exact fx); have hv1 := hv1.ext x4; have ap := At.ext x24 (At.ext x2 ap); have a2 := At.ext x24 a2; have s24 := x24.size))
  trace_state
  all_goals
    have hbp : bp ∉ blkOf v1 := fun h => by have := g1 _ h; omega
    have hb2' : b2 ∉ blkOf v1 := fun h => by have := g1 _ h; omega
    have s23 := x23.size
    have hbp2 : bp ∉ blkOf v2 := fun h => by have := g2 _ h; omega
    have hb22 : b2 ∉ blkOf v2 := fun h => by have := g2 _ h; omega
    have h12 : ∀ b ∈ blkOf v1, b ∉ blkOf v2 := fun b h h' => by have := g2 _ h'; have := l1 _ h; omega
    refine st_store (b := bp) (o := 1) (cur := txCs t iv ov) rfl rfl hv1.one ap (Nat.le_of_ble_eq_true rfl) (fun w5 c5 a5 => ?_)
    repeat (first|refine go ?_|refine zg (fun _ _=>?_)|refine zi (fun _ _=>?_))
    refine st_store (b := bp) (o := 2) (cur := txCs t v1 ov) rfl rfl hv2.one a5 (Nat.le_of_ble_eq_true rfl) (fun w6 c6 a6 => ?_)
    have c56 : Chg [bp] w4 w6 := (c5.trans c6).mono (by simp)
    have hv1 := hv1.step (M' := M1) c56 (by intro y hy; simp at hy; subst hy; exact ⟨hbp, .inl mb⟩) (fun _ h => .inl h)
    have hv2 := hv2.step (M' := blkOf v1 ++ M1) c56 (by intro y hy; simp at hy; subst hy; exact ⟨hbp2, .inl (by simp [mb])⟩) (fun _ h => .inl h)
    have a6 : At w6 bp (.cells (txCs t v1 v2).toArray T.api_Tx (0, 0)) := a6
    have a2 := At.chg c56 a2 (by simp; omega)
    have x26 : Ext w w6 := (Ext.chg ((xw ()).trans x24) c56).mono (by intro y hy; simp at hy; right; omega)
    have l1' := hv1.lt
    have r6 : Row w6 ⟨bp, 0, none⟩ (txCs t v1 v2) := Row.of_at a6
    clear c5 c6 c56 a5 ap x3 x4
    repeat' (first|(first|refine go1 ?_|refine zg (fun _ _=>?_)|refine zi (fun _ _=>?_))|refine zB ?_ ?_|refine zL rfl (fun h => ?_) (fun h => ?_)|(refine zG (l := t.ins) rfl (hv1.slB (B := w2.heap.size) hM1b) ?_)|(refine c_loopV (fun (k : Nat) w' => Ext w w' ∧ k ≤ t.ins.length ∧ w6.heap.size ≤ w'.heap.size ∧ At w' bp (.cells (txCs t v1 v2).toArray T.api_Tx (0, 0)) ∧ At w' b2 (.cells [Value.int .u32 0, .slice none 0 0, .slice none 0 0, .int .u32 0].toArray T.api_Tx (0, 0)) ∧ OwnR inR T.api_In w2.heap.size M1 w' v1 t.ins ∧ OwnR outR T.api_Out w3.heap.size (blkOf v1 ++ M1) w' v2 t.outs) (fun k => [(1, .pointer (some ⟨bp, 0, none⟩)), (2, .pointer (some ⟨b2, 0, none⟩)), (13, v1), (14, .int .i64 (t.ins.length : Nat)), (15, .int .i64 k)]) (fun k => t.ins.length - k) 0 ⟨rfl, rfl, rfl, rfl, rfl, trivial⟩ ⟨x26, Nat.zero_le _, Nat.le_refl _, a6, a2, hv1, hv2⟩ ?_; rintro k ρ w7 ⟨x7, hk, s7, a7, q2, o1, o2⟩; have r7 : Row w7 ⟨bp, 0, none⟩ (txCs t v1 v2) := Row.of_at a7))
    · have hki : k < t.ins.length := by omega
      have hwl := hs.wit _ (List.getElem_mem hki)
      obtain ⟨b1, cap, css, junk, rfl, hB, hat, hc, hln, hall, hsl⟩ := o1.open (by omega)
      obtain ⟨wv, hcs, hw, hp5, hp6⟩ := hall.get k (by omega) hki
      have hb1 : b1 < w7.heap.size := hat.lt
      have hMb : ∀ b ∈ b1 :: M1, b < w7.heap.size := fun b hb => by
        rcases List.mem_cons.1 hb with h | h
        · omega
        · have := hM1b b h; omega
      refine st_elemE (d := some 24) (E := vecE inR.k inR.pos) (l := css) (n := k) rfl rfl (by exact fx) rfl (by omega) (fun ad r8 => ?_)
      have r8 : Row _ ad css[k].1 := r8
      rw [hcs] at r8
      repeat' (first|(first|refine go1 ?_|refine zg (fun _ _=>?_)|refine zi (fun _ _=>?_))|refine zB ?_ ?_|(refine zC rfl (cloneS_spec (M := b1 :: M1) (l := t.ins[k].wit) _ (hw.ext (by exact fx)) (by omega) (fun b hb => Nat.lt_of_lt_of_le (hMb b hb) (Ext.size (by exact fx)))) ?_; rintro v3 w9 ⟨hv3, x9⟩; have hv3 := hv3.lower (B' := w7.heap.size) (Ext.size (by exact fx)); have s9 := Ext.size (w := w7) (w' := w9) (by exact fx))|(refine st_index (d := some 28) rfl rfl (by omega) ?_))
      all_goals
        have hx79 : Ext w7 w9 := by exact fx
        refine st_storeO (E := inR) (M := M1) (B := w2.heap.size) (l := t.ins) (i := k) (o := 3) (a := t.ins[k]) (css := css) (junk := junk) (cap := cap) rfl rfl hv3.one hB (hat.ext hx79) hc hln (all_ext hall hx79) hki (by decide) (fun w10 c10 => ?_) (fun w10 c10 o10 => ?_)
        · refine ⟨v3, by rw [hcs]; rfl, ?_, hp5, hp6⟩
          exact (hv3.slB hMb).step c10 (by intro y hy; simp at hy; subst hy; simp) (fun b hb => .inl hb)
        · have hbb : b1 ≠ bp := fun e => hbp (by rw [← e]; simp [blkOf])
          have hbb2 : b1 ≠ b2 := fun e => hb2' (by rw [← e]; simp [blkOf])
          have hbv : b1 ∉ blkOf v2 := h12 b1 (by simp [blkOf])
          have a7' := At.chg c10 (a7.ext hx79) (by simp; omega)
          have q2' := At.chg c10 (q2.ext hx79) (by simp; omega)
          have hs10 := c10.size
          have hwb : w.heap.size ≤ b1 := by omega
          have o2' := (o2.ext hx79).step c10 (M' := blkOf (.slice (some ⟨b1, 0, none⟩) t.ins.length cap) ++ M1) (by intro y hy; simp at hy; subst hy; exact ⟨hbv, .inl (by simp [blkOf])⟩) (fun _ h => .inl h)
          have x10 : Ext w w10 := ((x7.trans hx79).chg c10).mono (by intro y hy; simp at hy; right; omega)
          rw [List.set_getElem_self] at o10
          clear hx79
          repeat (first|refine go1 ?_|refine zg (fun _ _=>?_)|refine zi (fun _ _=>?_))
          exact ⟨k + 1, ⟨rfl, rfl, rfl, rfl, rfl, trivial⟩, ⟨x10, by omega, by omega, a7', q2', o10, o2'⟩, by omega⟩
    · refine st_setN (w0 := w) (vs := txCs t v1 v2) x7 (by omega) q2 rfl rfl rfl rfl ?_ (fun w11 x11 c11 a11 r11 => ?_)
      · have e1 := hv1.one
        have e2 := hv2.one
        simp [txCs, e1, e2]; exact ⟨rfl, rfl⟩
      repeat (first|refine go1 ?_|refine zg (fun _ _=>?_)|refine zi (fun _ _=>?_))
      have p1 := (o1.step (M' := M1) c11 (by intro y hy; simp at hy; subst hy; exact ⟨hb2', .inl m2⟩) (fun _ h => .inl h)).sub (M' := M) (fun b hb => .inl (mM b hb))
      have p2 := (o2.step (M' := M1) c11 (by intro y hy; simp at hy; subst hy; exact ⟨hb22, .inl (by simp [m2])⟩) (fun _ h => .inl (by simp [h]))).sub (M' := M) (fun b hb => .inl (mM b hb))
      exact x_ret (ret1 (rv_cell r11 rfl rfl)) ⟨_, rfl, ⟨v1, v2, rfl, p1.lower (by omega), p2.lower (by omega), hv, hl⟩, x11⟩
end Go.Proofs.YtilhlcnekkkajaaGreat
end
