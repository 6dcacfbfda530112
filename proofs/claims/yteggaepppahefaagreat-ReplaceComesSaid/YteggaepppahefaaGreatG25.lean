/- Contracts: ids and sizes; copies; slices of texts. Plain: entries that hang on one another. Contracts: the reference's list of entries. Contracts: ids of numbers; alike transactions; counts. Plain: transactions as small numbers. -/
import Derived.Test.YteggaepppahefaaGreatG24
set_option linter.unusedVariables false
set_option linter.unusedSimpArgs false
section
namespace Go.Proofs.YteggaepppahefaaGreat
open Go Go.K
attribute [local irreducible] regK codeK retK KOp.wp K.Spec u32 leS vnS str zero32 sha2 encT idT

def idV (t : Tx) : Value := if checkT t = 0 then .tuple #[.string (idT t), .int .i64 0] else .tuple #[.string ⟨#[]⟩, .int .i64 (checkT t)]
def weightV (t : Tx) : Value := if checkT t = 0 then .tuple #[.int .i64 (weightT t : Nat), .int .i64 0] else .tuple #[.int .i64 0, .int .i64 (checkT t)]
def sizeV (t : Tx) : Value := if checkT t = 0 then .tuple #[.int .i64 (sizeT t : Nat), .int .i64 0] else .tuple #[.int .i64 0, .int .i64 (checkT t)]
theorem id_spec {M : List Nat} {cs : List Value} {t : Tx} (w : World) (ht : txR.rel M w cs t) (hs : t.Sm) : K.Spec Tryz.prog F.ident_ID [.agg cs.toArray] w fun r w' => r = idV t ∧ Ext w w' := by
  have ht0 := ht
  obtain ⟨iv, ov, rfl, hi, ho, hv, hl⟩ := ht
  by_cases hc : checkT t = 0
  · have hz := sz_of_check hs hc
    rw [idV, if_pos hc]
    refine s_ident_ID rfl ?_
    unfold k_ident_ID
    refine ox ?_
    repeat' (first|(first|refine go1 ?_|refine zg (fun _ _=>?_)|refine zi (fun _ _=>?_))|(first|refine zD rfl rfl (fun bp wp xp ap rp hp0=>?_)|refine zE (fun _=>rfl) rfl rfl rfl (fun bq wq xq aq rq hq0=>?_))|refine zN rfl (fun h => ?_) (fun h => ?_)|(refine zC rfl (bare_spec (M := M) _ (cs := txCs t iv ov) (by exact fx) hs) ?_; rintro _ w1 ⟨rfl, x1⟩; rw [bareV, if_pos hc])|(refine zC rfl (twice_spec (encT false t) (by have := hz.all false; omega) _) ?_; rintro _ w2 ⟨rfl, x2⟩))
    all_goals first
      | exact x_ret rfl ⟨by rw [idT]; rfl, by exact fx⟩
      | exact absurd rfl (by assumption)
  · rw [idV, if_neg hc]
    refine s_ident_ID rfl ?_
    unfold k_ident_ID
    refine ox ?_
    repeat' (first|(first|refine go1 ?_|refine zg (fun _ _=>?_)|refine zi (fun _ _=>?_))|(first|refine zD rfl rfl (fun bp wp xp ap rp hp0=>?_)|refine zE (fun _=>rfl) rfl rfl rfl (fun bq wq xq aq rq hq0=>?_))|refine zN rfl (fun h => ?_) (fun h => ?_)|(refine zC rfl (bare_spec (M := M) _ (cs := txCs t iv ov) (by exact fx) hs) ?_; rintro _ w1 ⟨rfl, x1⟩; rw [bareV, if_neg hc]))
    all_goals first
      | exact x_ret rfl ⟨rfl, by exact fx⟩
      | exact absurd (by assumption) hc
theorem weight_spec {M : List Nat} {cs : List Value} {t : Tx} (w : World) (ht : txR.rel M w cs t) (hs : t.Sm) : K.Spec Tryz.prog F.ident_Weight [.agg cs.toArray] w fun r w' => r = weightV t ∧ Ext w w' := by
  have ht0 := ht
  obtain ⟨iv, ov, rfl, hi, ho, hv, hl⟩ := ht
  by_cases hc : checkT t = 0
  · have hz := sz_of_check hs hc
    have h1 := hz.all false
    have h2 := hz.all (witB t)
    rw [weightV, if_pos hc]
    refine s_ident_Weight rfl ?_
    unfold k_ident_Weight
    refine ox ?_
    repeat' (first|(refine st_mul rfl rfl (by omega) ?_)|(first|refine go1 ?_|refine zg (fun _ _=>?_)|refine zi (fun _ _=>?_))|(first|refine zD rfl rfl (fun bp wp xp ap rp hp0=>?_)|refine zE (fun _=>rfl) rfl rfl rfl (fun bq wq xq aq rq hq0=>?_))|refine zN rfl (fun h => ?_) (fun h => ?_)|(refine zC rfl (bare_spec (M := M) _ (cs := txCs t iv ov) (by exact fx) hs) ?_; rintro _ w1 ⟨rfl, x1⟩; rw [bareV, if_pos hc])|(refine zC rfl (encodeE_spec (M := M) _ (cs := txCs t iv ov) (by exact fx) hs) ?_; rintro _ w2 ⟨rfl, x2⟩; rw [bareV, if_pos hc]))
    all_goals first
      | exact x_ret rfl ⟨congrArg (fun n : Int => Value.tuple #[.int .i64 n, .int .i64 0]) (by rw [weightT]; omega), by exact fx⟩
      | exact absurd rfl (by assumption)
  · rw [weightV, if_neg hc]
    refine s_ident_Weight rfl ?_
    unfold k_ident_Weight
    refine ox ?_
    repeat' (first|(first|refine go1 ?_|refine zg (fun _ _=>?_)|refine zi (fun _ _=>?_))|(first|refine zD rfl rfl (fun bp wp xp ap rp hp0=>?_)|refine zE (fun _=>rfl) rfl rfl rfl (fun bq wq xq aq rq hq0=>?_))|refine zN rfl (fun h => ?_) (fun h => ?_)|(refine zC rfl (bare_spec (M := M) _ (cs := txCs t iv ov) (by exact fx) hs) ?_; rintro _ w1 ⟨rfl, x1⟩; rw [bareV, if_neg hc]))
    all_goals first
      | exact x_ret rfl ⟨rfl, by exact fx⟩
      | exact absurd (by assumption) hc
theorem size_spec {M : List Nat} {cs : List Value} {t : Tx} (w : World) (ht : txR.rel M w cs t) (hs : t.Sm) : K.Spec Tryz.prog F.ident_Size [.agg cs.toArray] w fun r w' => r = sizeV t ∧ Ext w w' := by
  have ht0 := ht
  obtain ⟨iv, ov, rfl, hi, ho, hv, hl⟩ := ht
  by_cases hc : checkT t = 0
  · have hz := sz_of_check hs hc
    have h1 := hz.weight
    rw [sizeV, if_pos hc]
    refine s_ident_Size rfl ?_
    unfold k_ident_Size
    refine ox ?_
    repeat' (first|(refine st_quo (n := weightT t + 3) (m := 4) (congrArg (Value.int .i64) (by omega)) rfl (by decide) (by omega) ?_)|(first|refine go1 ?_|refine zg (fun _ _=>?_)|refine zi (fun _ _=>?_))|(first|refine zD rfl rfl (fun bp wp xp ap rp hp0=>?_)|refine zE (fun _=>rfl) rfl rfl rfl (fun bq wq xq aq rq hq0=>?_))|(refine zC rfl (weight_spec (M := M) _ (cs := txCs t iv ov) (by exact fx) hs) ?_; rintro _ w1 ⟨rfl, x1⟩; rw [weightV, if_pos hc]))
    exact x_ret rfl ⟨rfl, by exact fx⟩
  · rw [sizeV, if_neg hc]
    refine s_ident_Size rfl ?_
    unfold k_ident_Size
    refine ox ?_
    repeat' (first|(first|refine go1 ?_|refine zg (fun _ _=>?_)|refine zi (fun _ _=>?_))|(first|refine zD rfl rfl (fun bp wp xp ap rp hp0=>?_)|refine zE (fun _=>rfl) rfl rfl rfl (fun bq wq xq aq rq hq0=>?_))|(refine zC rfl (weight_spec (M := M) _ (cs := txCs t iv ov) (by exact fx) hs) ?_; rintro _ w1 ⟨rfl, x1⟩; rw [weightV, if_neg hc]))
    exact x_ret rfl ⟨rfl, by exact fx⟩
theorem cloneS_spec {M : List Nat} {v : Value} {l : List ByteArray} (w : World) (hs : SlR strR M w v l) (hn : l.length ≤ 100000000) (hM : ∀ b ∈ M, b < w.heap.size) : K.Spec Tryz.prog F.slices_Clone_L_string_string [v] w fun r w' => OwnR strR T.string w.heap.size M w' r l ∧ Ext w w' := by
  have hs0 := hs
  obtain ⟨base, cap, rfl⟩ := hs.form
  cases base with
  | none =>
    have hl := hs.nil_of
    subst hl
    refine s_slices_Clone_L_string_string rfl ?_
    unfold k_slices_Clone_L_string_string
    refine ox ?_
    repeat (first|refine go ?_|refine zg (fun _ _=>?_)|refine zi (fun _ _=>?_))
    exact x_ret rfl ⟨OwnR.nil _ _ _ _, Ext.refl _⟩
  | some a =>
    refine s_slices_Clone_L_string_string rfl ?_
    unfold k_slices_Clone_L_string_string
    refine ox ?_
    repeat (first|refine go ?_|refine zg (fun _ _=>?_)|refine zi (fun _ _=>?_))
    refine zI (cs := []) rfl (fun b w1 x1 a1 hb => ?_)
    repeat (first|refine go ?_|refine zg (fun _ _=>?_)|refine zi (fun _ _=>?_))
    obtain ⟨css, h1, h2, _⟩ := hs0
    have hown : OwnR strR T.string w.heap.size M w1 (.slice (some ⟨b, 0, none⟩) 0 0) [] := OwnR.empty hb a1
    have hall : (strR).all (blkOf (.slice (some ⟨b, 0, none⟩) 0 0) ++ M) w1 css l := h2.mono fun _ _ hr => (strR).step hr x1 (by simp) (fun c hc => by
      rcases List.mem_append.1 hc with h | h
      · simp [blkOf] at h; right; omega
      · exact .inl h)
    refine st_appendR (E := strR) (M := M) (v := .slice (some ⟨b, 0, none⟩) 0 0) rfl hown x1.size rfl rfl (h1.ext x1).cells rfl hall h2.length (by simp; omega) (fun v2 w2 ho2 c2 hb2 => ?_)
    repeat (first|refine go ?_|refine zg (fun _ _=>?_)|refine zi (fun _ _=>?_))
    exact x_ret rfl ⟨ho2, (Ext.chg x1 c2).mono (by intro y hy; simp [blkOf] at hy; subst hy; exact .inr hb)⟩
theorem cloneI_spec {M : List Nat} {v : Value} {l : List TIn} (w : World) (hs : SlR inR M w v l) (hn : l.length ≤ 100000000) (hM : ∀ b ∈ M, b < w.heap.size) : K.Spec Tryz.prog F.slices_Clone_L_api_In_api_In [v] w fun r w' => OwnR inR T.api_In w.heap.size M w' r l ∧ Ext w w' := by
  have hs0 := hs
  obtain ⟨base, cap, rfl⟩ := hs.form
  cases base with
  | none =>
    have hl := hs.nil_of
    subst hl
    refine s_slices_Clone_L_api_In_api_In rfl ?_
    unfold k_slices_Clone_L_api_In_api_In
    refine ox ?_
    repeat (first|refine go ?_|refine zg (fun _ _=>?_)|refine zi (fun _ _=>?_))
    exact x_ret rfl ⟨OwnR.nil _ _ _ _, Ext.refl _⟩
  | some a =>
    refine s_slices_Clone_L_api_In_api_In rfl ?_
    unfold k_slices_Clone_L_api_In_api_In
    refine ox ?_
    repeat (first|refine go ?_|refine zg (fun _ _=>?_)|refine zi (fun _ _=>?_))
    refine zI (cs := []) rfl (fun b w1 x1 a1 hb => ?_)
    repeat (first|refine go ?_|refine zg (fun _ _=>?_)|refine zi (fun _ _=>?_))
    obtain ⟨css, h1, h2, _⟩ := hs0
    have hown : OwnR inR T.api_In w.heap.size M w1 (.slice (some ⟨b, 0, none⟩) 0 0) [] := OwnR.empty hb a1
    have hall : (inR).all (blkOf (.slice (some ⟨b, 0, none⟩) 0 0) ++ M) w1 css l := h2.mono fun _ _ hr => (inR).step hr x1 (by simp) (fun c hc => by
      rcases List.mem_append.1 hc with h | h
      · simp [blkOf] at h; right; omega
      · exact .inl h)
    refine st_appendR (E := inR) (M := M) (v := .slice (some ⟨b, 0, none⟩) 0 0) rfl hown x1.size rfl rfl (h1.ext x1).cells rfl hall h2.length (by simp; omega) (fun v2 w2 ho2 c2 hb2 => ?_)
    repeat (first|refine go ?_|refine zg (fun _ _=>?_)|refine zi (fun _ _=>?_))
    exact x_ret rfl ⟨ho2, (Ext.chg x1 c2).mono (by intro y hy; simp [blkOf] at hy; subst hy; exact .inr hb)⟩
theorem cloneO_spec {M : List Nat} {v : Value} {l : List TOut} (w : World) (hs : SlR outR M w v l) (hn : l.length ≤ 100000000) (hM : ∀ b ∈ M, b < w.heap.size) : K.Spec Tryz.prog F.slices_Clone_L_api_Out_api_Out [v] w fun r w' => OwnR outR T.api_Out w.heap.size M w' r l ∧ Ext w w' := by
  have hs0 := hs
  obtain ⟨base, cap, rfl⟩ := hs.form
  cases base with
  | none =>
    have hl := hs.nil_of
    subst hl
    refine s_slices_Clone_L_api_Out_api_Out rfl ?_
    unfold k_slices_Clone_L_api_Out_api_Out
    refine ox ?_
    repeat (first|refine go ?_|refine zg (fun _ _=>?_)|refine zi (fun _ _=>?_))
    exact x_ret rfl ⟨OwnR.nil _ _ _ _, Ext.refl _⟩
  | some a =>
    refine s_slices_Clone_L_api_Out_api_Out rfl ?_
    unfold k_slices_Clone_L_api_Out_api_Out
    refine ox ?_
    repeat (first|refine go ?_|refine zg (fun _ _=>?_)|refine zi (fun _ _=>?_))
    refine zI (cs := []) rfl (fun b w1 x1 a1 hb => ?_)
    repeat (first|refine go ?_|refine zg (fun _ _=>?_)|refine zi (fun _ _=>?_))
    obtain ⟨css, h1, h2, _⟩ := hs0
    have hown : OwnR outR T.api_Out w.heap.size M w1 (.slice (some ⟨b, 0, none⟩) 0 0) [] := OwnR.empty hb a1
    have hall : (outR).all (blkOf (.slice (some ⟨b, 0, none⟩) 0 0) ++ M) w1 css l := h2.mono fun _ _ hr => (outR).step hr x1 (by simp) (fun c hc => by
      rcases List.mem_append.1 hc with h | h
      · simp [blkOf] at h; right; omega
      · exact .inl h)
    refine st_appendR (E := outR) (M := M) (v := .slice (some ⟨b, 0, none⟩) 0 0) rfl hown x1.size rfl rfl (h1.ext x1).cells rfl hall h2.length (by simp; omega) (fun v2 w2 ho2 c2 hb2 => ?_)
    repeat (first|refine go ?_|refine zg (fun _ _=>?_)|refine zi (fun _ _=>?_))
    exact x_ret rfl ⟨ho2, (Ext.chg x1 c2).mono (by intro y hy; simp [blkOf] at hy; subst hy; exact .inr hb)⟩
/-- A transaction that has slices of its own, all from B on. -/
def txO (B : Nat) (M : List Nat) (w : World) (cs : List Value) (t : Tx) : Prop := ∃ iv ov, cs = txCs t iv ov ∧ OwnR inR T.api_In B M w iv t.ins ∧ OwnR outR T.api_Out B M w ov t.outs ∧ is32 t.ver ∧ is32 t.lock
theorem txO.rel {B : Nat} {M : List Nat} {w : World} {cs : List Value} {t : Tx} (h : txO B M w cs t) (hM : ∀ b ∈ M, b < B) : txR.rel M w cs t := by
  obtain ⟨iv, ov, rfl, h1, h2, h3⟩ := h
  exact ⟨iv, ov, rfl, h1.slB hM, h2.slB hM, h3⟩
theorem mem_app {L M : List Nat} {w : World} (h : ∀ b ∈ L, w.heap.size ≤ b) : ∀ b ∈ L ++ M, b ∈ M ∨ w.heap.size ≤ b := fun b hb => by
  rcases List.mem_append.1 hb with h1 | h1
  · exact .inr (h b h1)
  · exact .inl h1
set_option maxHeartbeats 2000000 in
theorem txcopy_spec {M : List Nat} {cs : List Value} {t : Tx} (w : World) (ht : txR.rel M w cs t) (hs : t.Sm) (hM : ∀ b ∈ M, b < w.heap.size) : K.Spec Tryz.prog F.tx_Copy [.agg cs.toArray] w fun r w' => ∃ cs', r = .agg cs'.toArray ∧ txO w.heap.size M w' cs' t ∧ Ext w w' := by
  have ht0 := ht
  obtain ⟨iv, ov, rfl, hi, ho, hv, hl⟩ := ht
  have hs1 := hs.ins
  have hs2 := hs.outs
  refine s_tx_Copy rfl ?_
  unfold k_tx_Copy
  refine ox ?_
  repeat' (first|(first|refine go1 ?_|refine zg (fun _ _=>?_)|refine zi (fun _ _=>?_))|(first|refine zD rfl rfl (fun bp wp xp ap rp hp0=>?_)|refine zE (fun _=>rfl) rfl rfl rfl (fun bq wq xq aq rq hq0=>?_)))
  refine zH (fun b2 w2 x2 a2 hb2 => ?_)
  have lp := ap.lt
  have l2 := a2.lt
  have sp := xp.size
  have s2 := x2.size
  have xw : Unit → Ext w w2 := fun _ => xp.trans x2
  obtain ⟨M1, hM1⟩ : ∃ M1, M1 = [b2, bp] ++ M := ⟨_, rfl⟩
  have hmem : ∀ b ∈ M1, b ∈ M ∨ w.heap.size ≤ b := by
    rw [hM1]; exact mem_app (fun y hy => by simp at hy; omega)
  have hi1 : SlR inR M1 w2 iv t.ins := hi.step (xw ()) (by simp) hmem
  have ho1 : SlR outR M1 w2 ov t.outs := ho.step (xw ()) (by simp) hmem
  have hM1b : ∀ b ∈ M1, b < w2.heap.size := by
    intro y hy; rw [hM1] at hy; simp at hy
    rcases hy with h | h | h
    · omega
    · omega
    · have := hM y h; omega
  have mb : bp ∈ M1 := by rw [hM1]; simp
  have m2 : b2 ∈ M1 := by rw [hM1]; simp
  have mM : ∀ b ∈ M, b ∈ M1 := by intro y hy; rw [hM1]; simp [hy]
  repeat' (first|(first|refine go1 ?_|refine zg (fun _ _=>?_)|refine zi (fun _ _=>?_))|refine zB ?_ ?_|(refine zC rfl (cloneI_spec (M := M1) (l := t.ins) _ (by exact fx) (by omega) (fun b hb => Nat.lt_of_lt_of_le (hM1b b hb) (Ext.size (by exact fx)))) ?_; rintro v1 w3 ⟨hv1, x3⟩; have l1 := hv1.lt; have hv1 := hv1.lower (B' := w2.heap.size) (by first | exact Nat.le_refl _ | (apply Ext.size; assumption)); have g1 := hv1.base; have x23 : Ext w2 w3 := (by exact fx))|(refine zC rfl (cloneO_spec (M := blkOf v1 ++ M1) (l := t.outs) _ (ho1.step x23 (by simp) (mem_app g1)) (by omega) (fun b hb => ?_)) ?_)|(rcases List.mem_append.1 hb with h | h;exact l1 b h;exact Nat.lt_of_lt_of_le (hM1b b h) (Ext.size (by exact fx)))|(rintro v2 w4 ⟨hv2, x4⟩; have g2 := hv2.base; have x24 : Ext w2 w4 := (by exact fx); have hv1 := hv1.ext x4; have ap := At.ext x24 (At.ext x2 ap); have a2 := At.ext x24 a2; have s24 := x24.size))
  trace_state
  all_goals
    have hbp : bp ∉ blkOf v1 := fun h => by have := g1 _ h; omega
    have hb2' : b2 ∉ blkOf v1 := fun h => by have := g1 _ h; omega
    have s23 := x23.size
    have hbp2 : bp ∉ blkOf v2 := fun h => by have := g2 _ h; omega
    have hb22 : b2 ∉ blkOf v2 := fun h => by have := g2 _ h; omega
    have h12 : ∀ b ∈ blkOf v1, b ∉ blkOf v2 := fun b h h' => by have := g2 _ h'; have := l1 _ h; omega
    refine st_store (b := bp) (o := 1) (cur := txCs t iv ov) rfl rfl hv1.one ap (Nat.le_of_ble_eq_true rfl) (fun w5 c5 a5 => ?_)
    repeat (first|refine go ?_|refine zg (fun _ _=>?_)|refine zi (fun _ _=>?_))
    refine st_store (b := bp) (o := 2) (cur := txCs t v1 ov) rfl rfl hv2.one a5 (Nat.le_of_ble_eq_true rfl) (fun w6 c6 a6 => ?_)
    have c56 : Chg [bp] w4 w6 := (c5.trans c6).mono (by simp)
    have hv1 := hv1.step (M' := M1) c56 (by intro y hy; simp at hy; subst hy; exact ⟨hbp, .inl mb⟩) (fun _ h => .inl h)
    have hv2 := hv2.step (M' := blkOf v1 ++ M1) c56 (by intro y hy; simp at hy; subst hy; exact ⟨hbp2, .inl (by simp [mb])⟩) (fun _ h => .inl h)
    have a6 : At w6 bp (.cells (txCs t v1 v2).toArray T.api_Tx (0, 0)) := a6
    have a2 := At.chg c56 a2 (by simp; omega)
    have x26 : Ext w w6 := (Ext.chg ((xw ()).trans x24) c56).mono (by intro y hy; simp at hy; right; omega)
    have l1' := hv1.lt
    have r6 : Row w6 ⟨bp, 0, none⟩ (txCs t v1 v2) := Row.of_at a6
    clear c5 c6 c56 a5 ap x3 x4
    repeat' (first|(first|refine go1 ?_|refine zg (fun _ _=>?_)|refine zi (fun _ _=>?_))|refine zB ?_ ?_|refine zL rfl (fun h => ?_) (fun h => ?_)|(refine zG (l := t.ins) rfl (hv1.slB (B := w2.heap.size) hM1b) ?_)|(refine c_loopV (fun (k : Nat) w' => Ext w w' ∧ k ≤ t.ins.length ∧ w6.heap.size ≤ w'.heap.size ∧ At w' bp (.cells (txCs t v1 v2).toArray T.api_Tx (0, 0)) ∧ At w' b2 (.cells [Value.int .u32 0, .slice none 0 0, .slice none 0 0, .int .u32 0].toArray T.api_Tx (0, 0)) ∧ OwnR inR T.api_In w2.heap.size M1 w' v1 t.ins ∧ OwnR outR T.api_Out w3.heap.size (blkOf v1 ++ M1) w' v2 t.outs) (fun k => [(1, .pointer (some ⟨bp, 0, none⟩)), (2, .pointer (some ⟨b2, 0, none⟩)), (13, v1), (14, .int .i64 (t.ins.length : Nat)), (15, .int .i64 k)]) (fun k => t.ins.length - k) 0 ⟨rfl, rfl, rfl, rfl, rfl, trivial⟩ ⟨x26, Nat.zero_le _, Nat.le_refl _, a6, a2, hv1, hv2⟩ ?_; rintro k ρ w7 ⟨x7, hk, s7, a7, q2, o1, o2⟩; have r7 : Row w7 ⟨bp, 0, none⟩ (txCs t v1 v2) := Row.of_at a7))
    · have hki : k < t.ins.length := by omega
      have hwl := hs.wit _ (List.getElem_mem hki)
      obtain ⟨b1, cap, css, junk, rfl, hB, hat, hc, hln, hall, hsl⟩ := o1.open (by omega)
      obtain ⟨wv, hcs, hw, hp5, hp6⟩ := hall.get k (by omega) hki
      have hb1 : b1 < w7.heap.size := hat.lt
      have hMb : ∀ b ∈ b1 :: M1, b < w7.heap.size := fun b hb => by
        rcases List.mem_cons.1 hb with h | h
        · omega
        · have := hM1b b h; omega
      refine st_elemE (d := some 24) (E := vecE inR.k inR.pos) (l := css) (n := k) rfl rfl (by exact fx) rfl (by omega) (fun ad r8 => ?_)
      have r8 : Row _ ad css[k].1 := r8
      rw [hcs] at r8
      repeat' (first|(first|refine go1 ?_|refine zg (fun _ _=>?_)|refine zi (fun _ _=>?_))|refine zB ?_ ?_|(refine zC rfl (cloneS_spec (M := b1 :: M1) (l := t.ins[k].wit) _ (hw.ext (by exact fx)) (by omega) (fun b hb => Nat.lt_of_lt_of_le (hMb b hb) (Ext.size (by exact fx)))) ?_; rintro v3 w9 ⟨hv3, x9⟩; have hv3 := hv3.lower (B' := w7.heap.size) (Ext.size (by exact fx)); have s9 := Ext.size (w := w7) (w' := w9) (by exact fx))|(refine st_index (d := some 28) rfl rfl (by omega) ?_))
      all_goals
        have hx79 : Ext w7 w9 := by exact fx
        refine st_storeO (E := inR) (M := M1) (B := w2.heap.size) (l := t.ins) (i := k) (o := 3) (a := t.ins[k]) (css := css) (junk := junk) (cap := cap) rfl rfl hv3.one hB (hat.ext hx79) hc hln (all_ext hall hx79) hki (by decide) (fun w10 c10 => ?_) (fun w10 c10 o10 => ?_)
        · refine ⟨v3, by rw [hcs]; rfl, ?_, hp5, hp6⟩
          exact (hv3.slB hMb).step c10 (by intro y hy; simp at hy; subst hy; simp) (fun b hb => .inl hb)
        · have hbb : b1 ≠ bp := fun e => hbp (by rw [← e]; simp [blkOf])
          have hbb2 : b1 ≠ b2 := fun e => hb2' (by rw [← e]; simp [blkOf])
          have hbv : b1 ∉ blkOf v2 := h12 b1 (by simp [blkOf])
          have a7' := At.chg c10 (a7.ext hx79) (by simp; omega)
          have q2' := At.chg c10 (q2.ext hx79) (by simp; omega)
          have hs10 := c10.size
          have hwb : w.heap.size ≤ b1 := by omega
          have o2' := (o2.ext hx79).step c10 (M' := blkOf (.slice (some ⟨b1, 0, none⟩) t.ins.length cap) ++ M1) (by intro y hy; simp at hy; subst hy; exact ⟨hbv, .inl (by simp [blkOf])⟩) (fun _ h => .inl h)
          have x10 : Ext w w10 := ((x7.trans hx79).chg c10).mono (by intro y hy; simp at hy; right; omega)
          rw [List.set_getElem_self] at o10
          clear hx79
          repeat (first|refine go1 ?_|refine zg (fun _ _=>?_)|refine zi (fun _ _=>?_))
          exact ⟨k + 1, ⟨rfl, rfl, rfl, rfl, rfl, trivial⟩, ⟨x10, by omega, by omega, a7', q2', o10, o2'⟩, by omega⟩
    · refine st_setN (w0 := w) (vs := txCs t v1 v2) x7 (by omega) q2 rfl rfl rfl rfl ?_ (fun w11 x11 c11 a11 r11 => ?_)
      · have e1 := hv1.one
        have e2 := hv2.one
        simp [txCs, e1, e2]; exact ⟨rfl, rfl⟩
      repeat (first|refine go1 ?_|refine zg (fun _ _=>?_)|refine zi (fun _ _=>?_))
      have p1 := (o1.step (M' := M1) c11 (by intro y hy; simp at hy; subst hy; exact ⟨hb2', .inl m2⟩) (fun _ h => .inl h)).sub (M' := M) (fun b hb => .inl (mM b hb))
      have p2 := (o2.step (M' := M1) c11 (by intro y hy; simp at hy; subst hy; exact ⟨hb22, .inl (by simp [m2])⟩) (fun _ h => .inl (by simp [h]))).sub (M' := M) (fun b hb => .inl (mM b hb))
      exact x_ret (ret1 (rv_cell r11 rfl rfl)) ⟨_, rfl, ⟨v1, v2, rfl, p1.lower (by omega), p2.lower (by omega), hv, hl⟩, x11⟩
end Go.Proofs.YteggaepppahefaaGreat
end
section
namespace Go.K
open Go
def findI (l : List Ent) (id : ByteArray) : Int := idxOf (fun x => decide (x.id = id)) l
def spends (x : Ent) (p : Pt) : Bool := x.tx.ins.any fun i => decide (i.p = p)
def spendI (l : List Ent) (p : Pt) : Int := idxOf (fun x => spends x p) l
def hangs (t : Tx) (x : Ent) : Bool := t.ins.any fun i => decide (i.p.s = x.id) && decide (i.p.i < (x.tx.outs.length : Int))
def idsOf : List Ent → List Bool → List ByteArray
  | x :: l, b :: m => if b then x.id :: idsOf l m else idsOf l m
  | _, _ => []
def feeOf : List Ent → List Bool → Int
  | x :: l, b :: m => (if b then x.fee else 0) + feeOf l m
  | _, _ => 0
def szOf : List Ent → List Bool → Int
  | x :: l, b :: m => (if b then x.size else 0) + szOf l m
  | _, _ => 0
def dropG (l : List Ent) (id : ByteArray) : List Ent × Int := if findI l id < 0 then (l, 8) else (l.eraseIdx (findI l id).toNat, 0)
def addG (l : List Ent) (t : Tx) (fee : Int) : List Ent × Int :=
  if checkT t ≠ 0 then (l, checkT t) else if grantB t then (l, 4) else if !goodB fee then (l, 3) else if l.any (fun x => decide (x.id = idT t)) then (l, 7)
  else if t.ins.any (fun i => l.any fun x => spends x i.p) then (l, 15) else (l ++ [⟨t, idT t, fee, (sizeT t : Nat)⟩], 0)
theorem idsOf_append {l l' : List Ent} {m m' : List Bool} (h : l.length = m.length) : idsOf (l ++ l') (m ++ m') = idsOf l m ++ idsOf l' m' := by
  induction l generalizing m with
  | nil => cases m with
    | nil => cases l' <;> cases m' <;> rfl
    | cons => simp at h
  | cons x l ih => cases m with
    | nil => simp at h
    | cons b m =>
      have := ih (m := m) (by simpa using h)
      simp only [List.cons_append, idsOf, this]; split <;> rfl
section
variable {l : List Ent} {m : List Bool} (h : l.length = m.length) {i : Nat} (hi : i < l.length)
include h hi
theorem idsOf_take : idsOf (l.take (i + 1)) (m.take (i + 1)) = idsOf (l.take i) (m.take i) ++ (if m[i]'(h ▸ hi) then [l[i].id] else []) := by
  rw [List.take_succ_eq_append_getElem hi, List.take_succ_eq_append_getElem (h ▸ hi), idsOf_append (by simp [h])]
  simp only [idsOf]
end
theorem idsOf_length : ∀ (l : List Ent) (m : List Bool), (idsOf l m).length ≤ l.length
  | [], _ => by simp [idsOf]
  | _ :: _, [] => by simp [idsOf]
  | x :: l, b :: m => by
    have := idsOf_length l m
    simp only [idsOf]; split <;> simp <;> omega
/-- What an entry is within. -/
structure EntOk (x : Ent) : Prop where
  check : checkT x.tx = 0
  grant : grantB x.tx = false
  fee : goodB x.fee = true
  id : x.id = idT x.tx
  size : x.size = (sizeT x.tx : Nat)
/-- The bytes of a number that stand for an id. -/
def idN (n : Nat) : ByteArray := str ((List.range 32).map fun i => UInt8.ofNat (n / 2 ^ (i % 8)) ^^^ UInt8.ofNat i)
theorem idN_size (n : Nat) : (idN n).size = 32 := by rw [idN, str_size]; simp
theorem idN_take (n i : Nat) (h : i < 32) : str (((List.range 32).map fun i => UInt8.ofNat (n / 2 ^ (i % 8)) ^^^ UInt8.ofNat i).take (i + 1)) = str (((List.range 32).map fun i => UInt8.ofNat (n / 2 ^ (i % 8)) ^^^ UInt8.ofNat i).take i) ++ str [UInt8.ofNat (n / 2 ^ (i % 8)) ^^^ UInt8.ofNat i] := by
  rw [List.take_succ_eq_append_getElem (by simpa using h), str_append]
  simp
def sameT (t u : Tx) : Bool := decide (t = u)
end Go.K
end
section
namespace Go.Proofs.YteggaepppahefaaGreat
open Go Go.K
attribute [local irreducible] regK codeK retK KOp.wp K.Spec u32 leS vnS str zero32 sha2 encT idT sizeT checkT grantB

def boolE : Enc Bool := ⟨fun b => [.bool b], 1, fun _ => rfl, by decide, by intro x v hv; simp at hv; subst hv; rfl⟩
theorem find_spec {M : List Nat} {v : Value} {l : List Ent} (id : ByteArray) (w : World) (hl : SlR entR M w v l) (hn : l.length ≤ 100000000) : K.Spec Tryz.prog F.kedgeref14_Find [v, .string id] w fun r w' => r = .int .i64 (findI l id) ∧ w' = w := by
  refine s_kedgeref14_Find rfl ?_
  unfold k_kedgeref14_Find
  refine ox ?_
  repeat' (first|(first|refine go1 ?_|refine zg (fun _ _=>?_)|refine zi (fun _ _=>?_))|refine zL rfl (fun h => ?_) (fun h => ?_)|refine zG rfl (by exact fx) ?_|(refine c_loopV (fun (i : Nat) w' => Ext w w' ∧ w' = w ∧ i ≤ l.length ∧ ∀ j, j < i → ∀ h : j < l.length, decide (l[j].id = id) = false) (fun i => [(0, v), (1, .string id), (5, .int .i64 i)]) (fun i => l.length - i) 0 ⟨rfl, rfl, rfl, trivial⟩ ⟨Ext.refl _, rfl, by omega, by omega⟩ ?_; rintro i ρ w1 ⟨x1, hw, hi, hk⟩)|(refine st_elemR rfl rfl (n := i) (l := l) (by exact fx) rfl (by omega) (fun ad cs r2 he => ?_); obtain ⟨iv, ov, rfl, h1, h2, h3⟩ := he; have hil : i < l.length := (by omega)))
  · exact x_ret rfl ⟨congrArg (Value.int .i64) (idxOf_hit hil (decide_eq_true h) (fun j hj => hk j hj (by omega))).symm, hw⟩
  · refine ⟨i + 1, ⟨rfl, rfl, rfl, trivial⟩, ⟨by exact fx, hw, by omega, fun j hj hl => ?_⟩, by omega⟩
    by_cases hji : j = i
    · subst hji; exact decide_eq_false h
    · exact hk j (by omega) hl
  · exact x_ret rfl ⟨congrArg (Value.int .i64) (idxOf_miss (fun j hj => hk j (by omega) hj)).symm, hw⟩
theorem rspender_spec {M : List Nat} {v : Value} {l : List Ent} (p : Pt) (w : World) (hl : SlR entR M w v l) (hn : l.length ≤ 100000000) (hs : ∀ x ∈ l, x.tx.ins.length ≤ 100000000) : K.Spec Tryz.prog F.kedgeref14_Spender [v, .agg p.cs.toArray] w fun r w' => r = .int .i64 (spendI l p) ∧ Ext w w' := by
  refine s_kedgeref14_Spender rfl ?_
  unfold k_kedgeref14_Spender
  refine ox ?_
  repeat' (first|(first|refine go1 ?_|refine zg (fun _ _=>?_)|refine zi (fun _ _=>?_))|(first|refine zD rfl rfl (fun bp wp xp ap rp hp0=>?_)|refine zE (fun _=>rfl) rfl rfl rfl (fun bq wq xq aq rq hq0=>?_))|refine zL rfl (fun h => ?_) (fun h => ?_)|refine zM rfl (fun h => ?_) (fun h => ?_)|refine zJ rfl (fun h => ?_) (fun h => ?_)|refine zG rfl (by exact fx) ?_|(refine c_loopV (fun (i : Nat) w' => Ext wp w' ∧ i ≤ l.length ∧ ∀ j, j < i → ∀ h : j < l.length, spends l[j] p = false) (fun i => [(0, v), (3, .pointer (some ⟨bp, 0, none⟩)), (5, .int .i64 i)]) (fun i => l.length - i) 0 ⟨rfl, rfl, rfl, trivial⟩ ⟨Ext.refl _, by omega, by omega⟩ ?_; rintro i ρ w1 ⟨x1, hi, hk⟩)|(have hil : i < l.length := (by omega); have hsl := hs _ (List.getElem_mem hil); refine c_loopV (fun (j : Nat) w' => Ext wp w' ∧ j ≤ l[i].tx.ins.length ∧ ∀ q, q < j → ∀ h : q < l[i].tx.ins.length, decide (l[i].tx.ins[q].p = p) = false) (fun j => [(0, v), (3, .pointer (some ⟨bp, 0, none⟩)), (5, .int .i64 i), (6, .int .i64 j)]) (fun j => l[i].tx.ins.length - j) 0 ⟨rfl, rfl, rfl, rfl, trivial⟩ ⟨by exact fx, by omega, by omega⟩ ?_; rintro j ρ2 w2 ⟨x2, hj, hkj⟩)|(refine st_elemR (E := entR) rfl rfl (n := i) (l := l) (by exact fx) rfl hil (fun ad cs r2 he => ?_); obtain ⟨iv, ov, rfl, h1, h2, h3⟩ := he)|(refine st_elemR (E := inR) rfl rfl (n := j) (l := l[i].tx.ins) (by exact fx) rfl (by omega) (fun ad cs r4 he => ?_); obtain ⟨wv, rfl, hw, _⟩ := he; obtain ⟨_, _, rfl⟩ := hw.form))
  all_goals first
    | (refine x_ret rfl ⟨congrArg (Value.int .i64) (idxOf_hit (p := fun x => spends x p) hil ?_ (fun j hj => hk j hj (by omega))).symm, by exact fx⟩
       exact List.any_eq_true.2 ⟨_, List.getElem_mem (show j < l[i].tx.ins.length by omega), decide_eq_true (pt_ext (by assumption) (by assumption))⟩)
    | exact ⟨j + 1, ⟨rfl, rfl, rfl, rfl, trivial⟩, ⟨by exact fx, by omega, fun q hq hl => by
        by_cases hqj : q = j
        · subst hqj; exact decide_eq_false (fun e => by subst e; exact h rfl)
        · exact hkj q (by omega) hl⟩, by omega⟩
    | exact ⟨i + 1, ⟨rfl, rfl, rfl, trivial⟩, ⟨by exact fx, by omega, fun q hq hl => by
        by_cases hqi : q = i
        · subst hqi; exact any_none fun r hr => hkj r (by omega) hr
        · exact hk q (by omega) hl⟩, by omega⟩
    | exact x_ret rfl ⟨congrArg (Value.int .i64) (idxOf_miss (fun j hj => hk j (by omega) hj)).symm, by exact fx⟩
    | trace_state
theorem wrap_i {n : Int} (h : is32 n) : IntKind.i64.wrap n = n := IntWalk.i64_in _ (by unfold is32 at h; omega)
end Go.Proofs.YteggaepppahefaaGreat
end
section
namespace Go.Proofs.YteggaepppahefaaGreat
open Go Go.K
attribute [local irreducible] regK codeK retK KOp.wp K.Spec u32 leS vnS str zero32 sha2 encT idT sizeT checkT grantB

theorem u8_xor (a b : UInt8) : binVal .xor (.int .u8 (a.toNat : Nat)) (.int .u8 (b.toNat : Nat)) = some (.int .u8 ((a ^^^ b).toNat : Nat)) := by
  have e : ∀ x : UInt8, BitVec.ofInt 8 (x.toNat : Nat) = x.toBitVec := fun x => by
    apply BitVec.eq_of_toNat_eq
    have := x.toNat_lt
    simp [BitVec.toNat_ofInt]
  simp only [binVal, isShift, Bool.false_eq_true, if_false, if_true, intBin, IntKind.bits]
  rw [e, e]
  refine congrArg some (congrArg (Value.int .u8) ?_)
  have h : IntKind.u8.wrap ((a.toBitVec ^^^ b.toBitVec).toNat : Nat) = (((a ^^^ b).toNat : Nat) : Int) % 256 := rfl
  refine h.trans ?_
  have := (a ^^^ b).toNat_lt
  omega
theorem shr_n (n i : Nat) : binVal .shr (.int .i64 (n : Nat)) (.int .i64 ((i % 8 : Nat) : Int)) = some (.int .i64 ((n / 2 ^ (i % 8) : Nat) : Int)) := by
  simp only [binVal, isShift, if_true]
  rw [if_neg (by omega)]
  have e : min ((i % 8 : Nat) : Int).toNat IntKind.i64.bits = i % 8 := by simp [IntKind.bits]; omega
  rw [e, Int.fdiv_eq_ediv_of_nonneg _ (by exact_mod_cast Nat.zero_le _)]
  norm_cast
section
variable {P : Program} {d : Option Tmp} {r : KR} {K : Env → World → Prop} {ρ : Env} {w : World}
theorem st_iU8 {x : Operand} {n : Nat} (hx : ev ρ x = .int .i64 (n : Nat)) (k : regK P r K (put ρ d (.int .u8 ((UInt8.ofNat n).toNat : Nat))) w) : regK P (.cons ⟨d, .conv .u8 x, none⟩ r) K ρ w :=
  st_fix rfl (by simp only [KOp.fix, hx]; rw [u8_wrap]) k
end
theorem idn_spec (n : Nat) (w : World) : K.Spec Tryz.prog F.kedgeref05_ID [.int .i64 (n : Nat)] w fun r w' => r = .string (idN n) ∧ Ext w w' := by
  refine s_kedgeref05_ID rfl ?_
  unfold k_kedgeref05_ID
  refine ox ?_
  repeat' (first|(refine st_rem (n := i) (m := 8) rfl rfl (by decide) ?_)|(refine st_bin rfl rfl (shr_n n i) ?_)|(refine st_iU8 rfl ?_)|(refine st_bin rfl rfl (u8_xor (UInt8.ofNat (n / 2 ^ (i % 8))) (UInt8.ofNat i)) ?_)|(first|refine go1 ?_|refine zg (fun _ _=>?_)|refine zi (fun _ _=>?_))|refine zL rfl (fun h => ?_) (fun h => ?_)|(refine c_loopV (fun (i : Nat) w' => Ext w w' ∧ i ≤ 32) (fun i => [(0, .int .i64 (n : Nat)), (3, .string (str (((List.range 32).map fun i => UInt8.ofNat (n / 2 ^ (i % 8)) ^^^ UInt8.ofNat i).take i))), (4, .int .i64 i)]) (fun i => 32 - i) 0 ⟨rfl, congrArg Value.string str_nil.symm, rfl, trivial⟩ ⟨Ext.refl _, by omega⟩ ?_; rintro i ρ w1 ⟨x1, hi⟩)|(refine zI rfl (fun b w2 x2 a2 hb => ?_))|(refine st_strU (l := [UInt8.ofNat (n / 2 ^ (i % 8)) ^^^ UInt8.ofNat i]) rfl (SlE.new (E := u8E) a2 rfl (Nat.le_refl _)) ?_)|(refine st_catS rfl rfl (by rw [str_size, str_size]; simp; omega) ?_))
  · exact ⟨i + 1, ⟨rfl, congrArg Value.string (idN_take n i (by omega)).symm, rfl, trivial⟩, ⟨by exact fx, by omega⟩, by omega⟩
  · exact x_ret rfl ⟨congrArg Value.string (by rw [idN, List.take_of_length_le (by simp; omega)]), by exact fx⟩
end Go.Proofs.YteggaepppahefaaGreat
end
section
namespace Go.K
open Go
structure Small where
  frm : List UInt8
  idx : UInt8
  outs : UInt8
  fee : Int
  mark : UInt8
  long : UInt8
instance : Inhabited Small := ⟨⟨[], 0, 0, 0, 0, 0⟩⟩
def u8R : R UInt8 := R.flat u8E false
def u8V (b : UInt8) : Value := .int .u8 (b.toNat : Nat)
def smallCs (z : Small) (fv : Value) : List Value := [fv, u8V z.idx, u8V z.outs, .int .i64 z.fee, u8V z.mark, u8V z.long]
def smallR : R Small where
  k := 6
  pos := by decide
  ag := true
  rel := fun M w cs z => ∃ fv, cs = smallCs z fv ∧ SlR u8R M w fv z.frm ∧ is64 z.fee
  len := fun ⟨_, h, _⟩ => by rw [h]; rfl
  one := fun ⟨fv, h, hs, _⟩ v hv => by
    obtain ⟨b, c, rfl⟩ := hs.form
    subst h; simp [smallCs] at hv; rcases hv with rfl | rfl | rfl | rfl | rfl | rfl <;> rfl
  step := fun ⟨fv, h, hs, h2⟩ c hL hM => ⟨fv, h, hs.step c hL hM, h2⟩
/-- What an input that was made is within. -/
structure InMade (x : TIn) : Prop where
  lo : 0 ≤ x.p.i
  hi : x.p.i < 4
  q : x.q = 4294967293
  wit : x.wit = []
  id : x.p.s.size = 32
structure OutMade (y : TOut) : Prop where
  lo : 0 ≤ y.v
  hi : y.v ≤ 2000
  s : y.s.size ≤ 40
structure Made (z : Small) (t : Tx) : Prop where
  ver : t.ver = 2
  lock : t.lock = (z.mark.toNat : Nat)
  ins : t.ins.length = min z.frm.length 4
  each : ∀ x ∈ t.ins, InMade x
  outs : t.outs.length = z.outs.toNat % 3 + 1 + z.long.toNat
  eacho : ∀ y ∈ t.outs, OutMade y
theorem wrap_u8 (b : UInt8) : IntKind.i64.wrap (b.toNat : Nat) = (b.toNat : Nat) := IntWalk.i64_in _ (by have := b.toNat_lt; omega)
theorem rem_u8 (n m : Nat) (h : 0 < m) : binVal .rem (.int .u8 (n : Nat)) (.int .u8 (m : Nat)) = some (.int .u8 ((n % m : Nat) : Int)) := by
  have hne : (m : Int) ≠ 0 := by omega
  simp only [binVal, isShift, Bool.false_eq_true, if_false, if_true, intBin]
  rw [tm, if_neg hne]
theorem rem_u32 (m : Int) : ∃ n : Int, binVal .rem (.int .u32 (IntKind.u32.wrap m)) (.int .u32 4) = some (.int .u32 n) ∧ 0 ≤ n ∧ n < 4 := by
  refine ⟨Int.tmod (IntKind.u32.wrap m) 4, ?_, ?_⟩
  · simp only [binVal, isShift, Bool.false_eq_true, if_false, if_true, intBin]
    rw [if_neg (by decide)]
  · have h : IntKind.u32.wrap m = m % 4294967296 := rfl
    rw [h, Int.tmod_eq_emod_of_nonneg (by omega)]; omega
theorem wrap_n8 {n : Nat} (h : n < 256) : IntKind.i64.wrap (n : Nat) = (n : Nat) := IntWalk.i64_in _ (by omega)
theorem is32_u8 (b : UInt8) : is32 (b.toNat : Nat) := by have := b.toNat_lt; unfold is32; omega
theorem Made.sm {z : Small} {t : Tx} (h : Made z t) : t.Sm := by
  have h1 := h.ins; have h2 := h.outs; have h3 := z.long.toNat_lt
  exact ⟨by omega, by omega, fun x hx => by rw [(h.each x hx).wit]; simp⟩
end Go.K
end
