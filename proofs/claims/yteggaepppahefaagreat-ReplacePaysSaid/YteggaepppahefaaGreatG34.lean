/- Contracts: the transaction of an act, of the laws of replacing. What comes into the laws of replacing. Contracts: a graph of any entries, as the laws of replacing make it. Contracts: what hangs on an entry, by the reference. -/
import Derived.Test.YteggaepppahefaaGreatG33
set_option linter.unusedVariables false
set_option linter.unusedSimpArgs false
section
namespace Go.Proofs.YteggaepppahefaaGreat
open Go Go.K
attribute [local irreducible] regK codeK retK KOp.wp K.Spec u32 leS vnS str zero32 sha2 encT idT sizeT checkT grantB idN stepR workL reachE findI dropG addG
/-- An entry that is added as plain data. -/
structure ActP where
  sm : Small
  fin : Bool
def actpCs (a : ActP) (fv : Value) : List Value := [fv, u8V a.sm.idx, u8V a.sm.outs, .int .i64 a.sm.fee, u8V a.sm.mark, u8V a.sm.long, .bool a.fin]
def actpR : R ActP where
  k := 7
  pos := by decide
  ag := true
  rel := fun M w cs a => ∃ fv, cs = actpCs a fv ∧ SlR u8R M w fv a.sm.frm ∧ is64 a.sm.fee ∧ a.sm.frm.length ≤ 9223372036854775807
  len := fun ⟨_, h, _⟩ => by rw [h]; rfl
  one := fun ⟨fv, h, hs, _⟩ v hv => by
    obtain ⟨b, c, rfl⟩ := hs.form
    subst h; simp [actpCs] at hv; rcases hv with rfl | rfl | rfl | rfl | rfl | rfl | rfl <;> rfl
  step := fun ⟨fv, h, hs, h2⟩ c hL hM => ⟨fv, h, hs.step c hL hM, h2⟩
theorem OwnR.outs {t : TypeId} {B : Nat} {M M' : List Nat} {w : World} {v : Value} {l : List TOut} (h : OwnR outR t B M w v l) : OwnR outR t B M' w v l := by
  obtain ⟨css, h1, h2⟩ := h
  exact ⟨css, h1, h2.mono fun _ _ hr => hr⟩
theorem own_apart {α β : Type} {E : R α} {F : R β} {t u : TypeId} {B B' : Nat} {M M' : List Nat} {w : World} {v v' : Value} {l : List α} {l' : List β} (h : OwnR E t B M w v l) (h' : OwnR F u B' M' w v' l') (hne : t ≠ u) : ∀ b ∈ blkOf v, b ∉ blkOf v' := by
  obtain ⟨css, h1, -⟩ := h
  obtain ⟨css', h1', -⟩ := h'
  rcases h1 with ⟨rfl, -⟩ | ⟨b, cap, junk, rfl, -, hat, -⟩
  · simp [blkOf]
  · rcases h1' with ⟨rfl, -⟩ | ⟨b', cap', junk', rfl, -, hat', -⟩
    · simp [blkOf]
    · intro y hy hy'
      simp [blkOf] at hy hy'
      rw [hy] at hy'
      subst hy'
      have := hat.inj hat'
      injection this with _ h2 _
      exact hne h2
theorem no_grant {t : Tx} (h : ∀ x ∈ t.ins, x.p.i < 4) : grantB t = false := by
  unfold grantB
  by_cases h1 : t.ins.length = 1
  · obtain ⟨x, hx⟩ : ∃ x, t.ins = [x] := List.length_eq_one_iff.1 h1
    have h2 := h x (by rw [hx]; simp)
    have : isBase x.p = false := by
      unfold isBase
      have : ¬ x.p.i = baseP.i := by show ¬ x.p.i = 4294967295; omega
      rw [decide_eq_false this, Bool.and_false]
    rw [hx]
    show (_ && isBase x.p) = false
    rw [this, Bool.and_false]
  · rw [decide_eq_false h1, Bool.false_and]
theorem sm_set {t : Tx} {l : List TIn} (hs : t.Sm) (h1 : l.length = t.ins.length) (h2 : ∀ x ∈ l, x.wit.length ≤ 1000) : ({ t with ins := l } : Tx).Sm := ⟨by have := hs.ins; show l.length ≤ 1000; omega, hs.outs, h2⟩
def modZ (n : Nat) (z : Small) : Small := { z with long := UInt8.ofNat (z.long.toNat % n) }
theorem modZ_v (n : Nat) (z : Small) (hn : 0 < n) (h : n ≤ 256) : (Value.int .u8 ((z.long.toNat % n : Nat) : Int)) = u8V (modZ n z).long := cutZ_v n 0 z hn h
set_option maxHeartbeats 4000000 in
theorem of16g_spec {M : List Nat} {v : Value} {cs : List Value} {l : List Ent} {a : ActP} (w : World) (hl : SlR entR M w v l) (ha : actpR.rel M w cs a) (hn : l.length ≤ 100000) (hid : ∀ x ∈ l, x.id.size = 32) (hM : ∀ b ∈ M, b < w.heap.size) :
    K.Spec Tryz.prog F.kedgelaw16_of [v, .agg cs.toArray] w fun r w' => ∃ cs' t, r = .agg cs'.toArray ∧ txO w.heap.size M w' cs' t ∧ t.Sm ∧ grantB t = false ∧ Ext w w' := by
  obtain ⟨fv, rfl, q1, q2, q3⟩ := ha
  have i1 := q1.one
  refine s_kedgelaw16_of rfl ?_
  unfold k_kedgelaw16_of
  refine ox ?_
  repeat' (first|(refine st_bin (d := some 12) rfl rfl (rem_u8 a.sm.long.toNat 4 (by decide)) ?_; rw [modZ_v 4 a.sm (by decide) (by decide)])|(first|refine go1 ?_|refine zg (fun _ _=>?_)|refine zi (fun _ _=>?_))|(refine zD rfl rfl (fun bp wp xp ap (rp : Row wp ⟨bp, 0, none⟩ (actpCs a fv)) hp0=>?_))|(refine zH (d := some 4) (fun b4 w4 x4 a4 hb4 => ?_))|(refine zE (d' := 5) (fun _=>rfl) rfl rfl (by obtain ⟨_, _, rfl⟩ := q1.form; rfl) (fun b5 w5 x5 (a5 : At w5 b5 (.cells (smallCs a.sm fv).toArray T.kedgeref14_Small (0, 0))) (r5 : Row w5 ⟨b5, 0, none⟩ (smallCs a.sm fv)) hb5=>?_)))
  have s5 := x5.size
  have s4 := x4.size
  have sp := xp.size
  have l5 := a5.lt
  have l4 := a4.lt
  have lp := ap.lt
  refine st_store (b := b5) (o := 5) (v := u8V (modZ 4 a.sm).long) rfl rfl rfl a5 (by simp [smallCs]) (fun w6 c6 a6 => ?_)
  have r6 : Row w6 ⟨b5, 0, none⟩ (smallCs (modZ 4 a.sm) fv) := Row.of_at a6
  have x46 : Ext w4 w6 := (Ext.chg x5 c6).mono (by intro y hy; simp at hy; right; omega)
  have x06 : Ext w w6 := (xp.trans x4).trans x46
  have s6 := c6.size
  obtain ⟨M4, hM4⟩ : ∃ M4, M4 = b4 :: M := ⟨_, rfl⟩
  have m4 : b4 ∈ M4 := by rw [hM4]; simp
  have mM : ∀ b ∈ M, b ∈ M4 := fun b hb => by rw [hM4]; simp [hb]
  have mB : ∀ b ∈ M4, b ∈ M ∨ w.heap.size ≤ b := fun b hb => by
    rw [hM4] at hb
    rcases List.mem_cons.1 hb with h | h
    · exact .inr (by omega)
    · exact .inl h
  have hM6 : ∀ b ∈ M4, b < w6.heap.size := fun b hb => by
    rw [hM4] at hb
    rcases List.mem_cons.1 hb with h | h
    · omega
    · have := hM b h; omega
  have a46 := a4.ext x46
  have ap6 := (ap.ext x4).ext x46
  have l6 := hl.step x06 (by simp) mB
  have q6 := q1.step x06 (by simp) mB
  clear rp r5 a5 a6 c6 x5 x46 xp x4 a4 ap hl
  repeat' (first|(first|refine go1 ?_|refine zg (fun _ _=>?_)|refine zi (fun _ _=>?_))|(refine zC rfl (make_spec (M := M4) (l := l) (cs := smallCs (modZ 4 a.sm) fv) (z := modZ 4 a.sm) _ (l6.ext (by exact fx)) ⟨fv, rfl, q6.ext (by exact fx), q2⟩ (by omega) q3 hid hM6) ?_; rintro _ w7 ⟨ds, t, rfl, ho, hmd, x7⟩))
  have s7 := x7.size
  have hsm := hmd.sm
  have o1 := ho.one
  obtain ⟨iv, ov, rfl, hi7, ho7, hv1, hv2⟩ := ho
  refine zE (d' := 6) (fun _=>rfl) rfl rfl o1 (fun b8 w8 x8 (a8 : At w8 b8 (.cells (txCs t iv ov).toArray T.api_Tx (0, 0))) r8 hb8=>?_)
  have s8 := x8.size
  have l8 := a8.lt
  have g1 := hi7.base
  have g2 := ho7.base
  have t1 := hi7.lt
  have t2 := ho7.lt
  have hap := own_apart hi7 ho7 (by decide)
  have n8 : b8 ∉ blkOf iv := fun h => by have := t1 _ h; omega
  have n8o : b8 ∉ blkOf ov := fun h => by have := t2 _ h; omega
  have n4 : b4 ∉ blkOf iv := fun h => by have := g1 _ h; omega
  have np : bp ∉ blkOf iv := fun h => by have := g1 _ h; omega
  have x68 : Ext w6 w8 := x7.trans x8
  have a48 := a46.ext x68
  have ap8 := ap6.ext x68
  have hi8 := hi7.ext x8
  have ho8 : OwnR outR T.api_Out w6.heap.size (blkOf iv) w8 ov t.outs := OwnR.outs (ho7.ext x8)
  have x08 : Ext w w8 := x06.trans x68
  clear r6 x7 x8 x68 a46 ap6 x06 hi7 ho7 l6 q6
  repeat' (first|(first|refine go1 ?_|refine zg (fun _ _=>?_)|refine zi (fun _ _=>?_))|(refine zG (d := some 19) (E := inR) (M := M4) (l := t.ins) rfl (SlR.ext (hi8.slB hM6) (by exact fx)) ?_)|(refine c_loopV (fun (p : Nat × List TIn) w' => Ext w w' ∧ w8.heap.size ≤ w'.heap.size ∧ p.1 ≤ t.ins.length ∧ p.2.length = t.ins.length ∧ (∀ x ∈ p.2, x.wit.length ≤ 1000 ∧ x.p.i < 4) ∧ At w' bp (.cells (actpCs a fv).toArray T.kedgelaw16_Act (0, 0)) ∧ At w' b4 (.cells [Value.int .u32 0, .slice none 0 0, .slice none 0 0, .int .u32 0].toArray T.api_Tx (0, 0)) ∧ At w' b8 (.cells (txCs t iv ov).toArray T.api_Tx (0, 0)) ∧ OwnR inR T.api_In w6.heap.size M4 w' iv p.2 ∧ OwnR outR T.api_Out w6.heap.size (blkOf iv) w' ov t.outs) (fun p => [(3, .pointer (some ⟨bp, 0, none⟩)), (4, .pointer (some ⟨b4, 0, none⟩)), (6, .pointer (some ⟨b8, 0, none⟩)), (19, .int .i64 (t.ins.length : Nat)), (20, .int .i64 p.1)]) (fun p => t.ins.length - p.1) (0, t.ins) ⟨rfl, rfl, rfl, rfl, rfl, trivial⟩ ⟨x08, Nat.le_refl _, by simp, rfl, (fun x hx => ⟨hsm.wit x hx, (hmd.each x hx).hi⟩), ap8, a48, a8, hi8, ho8⟩ ?_; rintro ⟨i, L⟩ ρ w9 ⟨x9, s9, hi, hL, hLw, ap9, a49, a89, hi9, ho9⟩; simp only at hi hL hLw hi9; dsimp only; have rp9 : Row w9 ⟨bp, 0, none⟩ (actpCs a fv) := Row.of_at ap9; have r89 : Row w9 ⟨b8, 0, none⟩ (txCs t iv ov) := Row.of_at a89)|(refine zL rfl (fun h => ?_) (fun h => ?_)))
  · have hil : i < t.ins.length := by omega
    have hsi := hsm.ins
    have hiL : i < L.length := by rw [hL]; exact hil
    have x9u : Unit → Ext w w9 := fun _ => x9
    clear x9 x08 ap8 a48 a8 hi8 ho8
    repeat' (first|(first|refine go1 ?_|refine zg (fun _ _=>?_)|refine zi (fun _ _=>?_))|refine zM rfl (fun h => ?_) (fun h => ?_))
    · obtain ⟨b1, cap, css, junk, rfl, hB, hat, hc, hln, hall, hsl⟩ := hi9.open (by omega)
      obtain ⟨wv, hcs, hw, hp5, hp6⟩ := hall.get i (by omega) (by omega)
      repeat' (first|(refine st_index (d := some 28) rfl rfl (by omega) ?_)|(first|refine go1 ?_|refine zg (fun _ _=>?_)|refine zi (fun _ _=>?_)))
      refine st_storeO (E := inR) (M := M4) (B := w6.heap.size) (l := L) (i := i) (o := 2) (u := .int .u32 4294967294) (a := { L[i] with q := 4294967294 }) (css := css) (junk := junk) (cap := cap) rfl rfl rfl hB hat hc hln hall (by omega) (by decide) (fun w10 c10 => ?_) (fun w10 c10 o10 => ?_)
      · exact ⟨wv, by rw [hcs]; rfl, hw.step c10 (by intro y hy; simp at hy; subst hy; simp) (fun b hb => .inl hb), hp5, by show is32 4294967294; unfold is32; omega⟩
      · have e1 : b1 ≠ b8 := fun e => n8 (by rw [← e]; simp [blkOf])
        have e2 : b1 ≠ b4 := fun e => n4 (by rw [← e]; simp [blkOf])
        have e3 : b1 ≠ bp := fun e => np (by rw [← e]; simp [blkOf])
        have e4 : b1 ∉ blkOf ov := hap b1 (by simp [blkOf])
        have s10 := c10.size
        have a8' := At.chg c10 a89 (by simp; omega)
        have a4' := At.chg c10 a49 (by simp; omega)
        have ap' := At.chg c10 ap9 (by simp; omega)
        have ho' := ho9.step c10 (M' := blkOf (.slice (some ⟨b1, 0, none⟩) L.length cap)) (by intro y hy; simp at hy; subst hy; exact ⟨e4, .inl (by simp [blkOf])⟩) (fun _ h => .inl h)
        have x10 : Ext w w10 := ((x9u ()).chg c10).mono (by intro y hy; simp at hy; right; omega)
        repeat (first|refine go1 ?_|refine zg (fun _ _=>?_)|refine zi (fun _ _=>?_))
        refine ⟨(i + 1, L.set i { L[i] with q := 4294967294 }), ⟨rfl, rfl, rfl, rfl, rfl, trivial⟩, ⟨x10, by omega, by simp only; omega, by simp only [List.length_set]; exact hL, ?_, ap', a4', a8', o10, ho'⟩, by simp only; omega⟩
        intro x hx
        rcases List.mem_or_eq_of_mem_set hx with h1 | h1
        · exact hLw x h1
        · rw [h1]; exact hLw L[i] (List.getElem_mem _)
    · exact ⟨(i + 1, L), ⟨rfl, rfl, rfl, rfl, rfl, trivial⟩, ⟨x9u (), s9, by simp only; omega, hL, hLw, ap9, a49, a89, hi9, ho9⟩, by simp only; omega⟩
  · refine st_setN (w0 := w) (vs := txCs t iv ov) x9 (by omega) a49 rfl rfl rfl rfl (by have e1 := hi9.one; have e2 := ho9.one; simp [txCs, e1, e2]; exact ⟨rfl, rfl⟩) (fun w11 x11 c11 a11 r11 => ?_)
    repeat (first|refine go1 ?_|refine zg (fun _ _=>?_)|refine zi (fun _ _=>?_))
    have p1 := hi9.step (M' := M) c11 (by intro y hy; simp at hy; subst hy; exact ⟨n4, .inl m4⟩) (fun b h => .inl (mM b h))
    have p2 := (OwnR.outs (M' := b4 :: M) ho9).step (M' := M) c11 (by intro y hy; simp at hy; subst hy; exact ⟨fun h => by have := g2 _ h; omega, .inl (by simp)⟩) (fun _ h => .inl (by simp [h]))
    exact x_ret (ret1 (rv_cell r11 rfl rfl)) ⟨_, { t with ins := L }, rfl, ⟨iv, ov, rfl, p1.lower (by omega), p2.lower (by omega), hv1, hv2⟩, sm_set hsm hL (fun x hx => (hLw x hx).1), no_grant (fun x hx => (hLw x hx).2), x11⟩
theorem of16_spec {M : List Nat} {v : Value} {cs : List Value} {l : List Ent} {a : ActP} (w : World) (hl : SlR entR M w v l) (ha : actpR.rel M w cs a) (hn : l.length ≤ 100000) (hid : ∀ x ∈ l, x.id.size = 32) (hM : ∀ b ∈ M, b < w.heap.size) :
    K.Spec Tryz.prog F.kedgelaw16_of [v, .agg cs.toArray] w fun r w' => ∃ cs' t, r = .agg cs'.toArray ∧ txO w.heap.size M w' cs' t ∧ t.Sm ∧ Ext w w' :=
  spec_mono (of16g_spec w hl ha hn hid hM) fun _ _ ⟨cs', t, h1, h2, h3, _, h5⟩ => ⟨cs', t, h1, h2, h3, h5⟩
end Go.Proofs.YteggaepppahefaaGreat
end
section
namespace Go.Proofs.YteggaepppahefaaGreat
open Go Go.K
set_option maxRecDepth 100000
theorem reads_actp {W : World} {c : List Value} (h : Reads Tryz.prog W 66 c) : ∃ a : ActP, actpR.rel [] W c a := by
  obtain ⟨h1, h2⟩ := reads_struct Tryz.underlying66 h
  have l : c.length = 7 := h1.trans (by kernel_rfl)
  match c, l with
  | [c0, c1, c2, c3, c4, c5, c6], _ =>
    have g0 := h2 _ (List.mem_of_getElem? (i := 0) rfl)
    have g1 := h2 _ (List.mem_of_getElem? (i := 1) rfl)
    obtain ⟨z, fv, e0, hz1, hz2, hz3⟩ := reads_small g0
    obtain ⟨o, e1⟩ := reads_bool Tryz.underlying4 g1
    simp only [c_small, c_bool, List.drop_zero, List.drop_succ_cons, List.take_succ_cons, List.take_zero, List.cons.injEq, and_true] at e0 e1
    simp only [smallCs, List.cons.injEq, and_true] at e0
    obtain ⟨rfl, rfl, rfl, rfl, rfl, rfl⟩ := e0
    exact ⟨⟨z, o⟩, c0, by rw [e1]; rfl, hz1, hz2, hz3⟩
theorem reads_actps {W : World} {v : Value} (h : Reads Tryz.prog W 61 [v]) : ∃ l, SlR actpR [] W v l ∧ l.length ≤ maxLen :=
  reads_slR actpR Tryz.underlying61 (by kernel_rfl) (fun _ h => reads_actp h) h
theorem reads_u16 {W : World} {c : List Value} (h : Reads Tryz.prog W 52 c) : ∃ n : Int, c = [.int .u16 n] ∧ 0 ≤ n ∧ n ≤ 65535 := by
  obtain ⟨n, e, h1, h2⟩ := reads_int Tryz.underlying52 h
  exact ⟨n, e, h1, h2⟩
end Go.Proofs.YteggaepppahefaaGreat
end
section
namespace Go.Proofs.YteggaepppahefaaGreat
open Go Go.K
theorem addG_fee {l : List Ent} {t : Tx} {f c : Int} (h : ∀ x ∈ l, x.fee ≤ c) (hf : f ≤ c) : ∀ x ∈ (addG l t f).1, x.fee ≤ c := by
  intro x hx
  unfold addG at hx
  split at hx
  · exact h x hx
  split at hx
  · exact h x hx
  split at hx
  · exact h x hx
  split at hx
  · exact h x hx
  split at hx
  · exact h x hx
  · rcases List.mem_append.1 hx with h1 | h1
    · exact h x h1
    · simp only [List.mem_singleton] at h1; rw [h1]; exact hf
attribute [local irreducible] regK codeK retK KOp.wp K.Spec u32 leS vnS str zero32 sha2 encT idT sizeT checkT grantB idN stepR workL reachE findI dropG addG
set_option maxHeartbeats 4000000 in
theorem filled16_spec {v : Value} {sc : List ActP} (w : World) (hs : SlR actpR [] w v sc) :
    K.Spec Tryz.prog F.kedgelaw16_filled [v, .int .i64 12] w fun r w' => ∃ g M u l, r = .tuple #[.pointer (some ⟨g, 0, none⟩), u] ∧ Gr w' w.heap.size g M l ∧ SlR entR M w' u l ∧ l.length ≤ 12 ∧ (∀ x ∈ l, x.fee ≤ 16777215) ∧ Ext w w' := by
  refine s_kedgelaw16_filled rfl ?_
  unfold k_kedgelaw16_filled
  refine ox ?_
  repeat' (first|(refine st_takeR (d := some 17) (E := actpR) (n := min sc.length 12) rfl rfl (by omega) hs (by omega) rfl (fun v' hv => ?_))|(first|refine go1 ?_|refine zg (fun _ _=>?_)|refine zi (fun _ _=>?_))|(refine zC rfl (new_spec _) ?_; rintro _ w1 ⟨g, M1, rfl, G1, x1⟩)|(refine zG (E := actpR) (M := []) (l := sc) rfl (SlR.ext hs (by exact fx)) ?_)|(refine zG (d := some 18) (E := actpR) (M := []) (l := sc.take (min sc.length 12)) rfl (SlR.ext hv (by exact fx)) ?_)|(refine st_min (m := 12) rfl rfl ?_))
  have hSl : (sc.take (min sc.length 12)).length ≤ 12 := by rw [List.length_take]; omega
  generalize sc.take (min sc.length 12) = S at *
  have hv1 := SlR.ext hv x1
  repeat' (first|(first|refine go1 ?_|refine zg (fun _ _=>?_)|refine zi (fun _ _=>?_))|(refine zL rfl (fun h => ?_) (fun h => ?_))|(refine c_loopV (fun (p : Nat × List Ent × List Nat × Value) w' => Ext w w' ∧ p.1 ≤ S.length ∧ p.2.1.length ≤ p.1 ∧ (∀ x ∈ p.2.1, x.fee ≤ 16777215) ∧ Gr w' w.heap.size g p.2.2.1 p.2.1 ∧ SlR entR p.2.2.1 w' p.2.2.2 p.2.1) (fun p => [(6, .pointer (some ⟨g, 0, none⟩)), (7, p.2.2.2), (17, v'), (18, .int .i64 (S.length : Nat)), (19, .int .i64 p.1)]) (fun p => S.length - p.1) (0, [], M1, .slice none 0 0) ⟨rfl, rfl, rfl, rfl, rfl, trivial⟩ ⟨x1, by simp, by simp, by simp, G1, SlR.nil _ _⟩ ?_; rintro ⟨i, l, M, u⟩ ρ w3 ⟨x3, hi, hli, hfl, G3, u3⟩; simp only at hi hli hfl G3 u3; dsimp only; have hM3 := G3.lt; have hB3 := G3.base))
  · clear G1 x1 hv1
    have hil : i < S.length := by omega
    have hid32 : ∀ x ∈ l, x.id.size = 32 := fun x hx => by rw [(G3.ok x hx).id]; exact idT_size _
    have hv3 : SlR actpR M w3 v' S := hv.step x3 (by simp) (fun b hb => .inr (hB3 b hb))
    refine st_elemR (d := some 21) (E := actpR) (M := M) rfl rfl (n := i) (l := S) hv3 rfl hil (fun ad cs r4 he => ?_)
    obtain ⟨fv, rfl, q1, q2, q3⟩ := he
    generalize S[i] = z at *
    have s3 := x3.size
    repeat' (first|(first|refine go1 ?_|refine zg (fun _ _=>?_)|refine zi (fun _ _=>?_))|(refine zE (d' := 9) (fun _=>rfl) rfl rfl (by obtain ⟨_, _, rfl⟩ := q1.form; rfl) (fun b9 w9 x9 (a9 : At w9 b9 (.cells (actpCs z fv).toArray T.kedgelaw16_Act (0, 0))) (r9 : Row w9 ⟨b9, 0, none⟩ (actpCs z fv)) hb9=>?_)))
    have s9 := x9.size
    have l9 := a9.lt
    have hMo : ∀ b ∈ M, b < w9.heap.size := fun b hb => by have := hM3 b hb; omega
    have q9 : SlR u8R M w9 fv z.sm.frm := q1.ext x9
    have hf := andI_64 z.sm.fee (m := 16777215) (by decide) (by decide)
    have hfb := (andI_le z.sm.fee (m := 16777215) (by decide) (by decide)).2
    have u9 := u3.ext x9
    have G9 := G3.ext x9
    have n9 : b9 ∉ M := fun h => by have := hM3 _ h; omega
    clear r4 q1
    repeat' (first|(first|refine go1 ?_|refine zg (fun _ _=>?_)|refine zi (fun _ _=>?_))|(refine zC rfl (of16_spec (M := M) (l := l) (cs := actpCs z fv) (a := z) _ (u9.ext (by exact fx)) ⟨fv, rfl, q9.ext (by exact fx), q2, q3⟩ (by omega) hid32 hMo) ?_; rintro _ w5 ⟨ds, t, rfl, ho, hsm, x5⟩))
    have s5 := x5.size
    have t5 : txR.rel M w5 ds t := txO.rel ho hMo
    have o1 := ho.one
    obtain ⟨iv5, ov5, rfl, -⟩ := ho
    refine zE (d' := 10) (fun _=>rfl) rfl rfl o1 (fun b6 w6 x6 (a6 : At w6 b6 (.cells (txCs t iv5 ov5).toArray T.api_Tx (0, 0))) r6 hb6=>?_)
    have s6 := x6.size
    have l6 := a6.lt
    have x96 := x5.trans x6
    have a96 := a9.ext x96
    have r96 : Row w6 ⟨b9, 0, none⟩ (actpCs z fv) := Row.of_at a96
    have t6 : txR.rel M w6 (txCs t iv5 ov5) t := R.ext t5 x6
    have G6 := G9.ext x96
    have u6 := u9.ext x96
    have x06 := (x3.trans x9).trans x96
    have hM6 : ∀ b ∈ M, b < w6.heap.size := fun b hb => by have := hM3 b hb; omega
    have n6 : b6 ∉ M := fun h => by have := hM3 _ h; omega
    clear x3 x5 x6 x9 x96 G3 G9 u3 u9 a9 r9 t5 q9
    repeat' (first|(refine st_bin (d := some 31) (v := .int .i64 (andI z.sm.fee 16777215)) rfl rfl rfl ?_)|(first|refine go1 ?_|refine zg (fun _ _=>?_)|refine zi (fun _ _=>?_))|(refine zC rfl (gadd_spec (M := M) (N := M) (cs := txCs t iv5 ov5) (t := t) (andI z.sm.fee 16777215) _ G6 t6 hsm hf hM6 (fun _ h => h) (by omega)) ?_; rintro _ w7 ⟨M7, rfl, G7, c7, hb7⟩))
    have t7 : txR.rel M7 w7 (txCs t iv5 ov5) t := txR.step t6 c7 (fun b hb => .inl hb) hb7
    have u7 : SlR entR M7 w7 u l := u6.step c7 (fun b hb => .inl hb) hb7
    have a97 := a96.chg c7 n9
    have a67 := a6.chg c7 n6
    have r97 : Row w7 ⟨b9, 0, none⟩ (actpCs z fv) := Row.of_at a97
    have r67 : Row w7 ⟨b6, 0, none⟩ (txCs t iv5 ov5) := Row.of_at a67
    have x07 : Ext w w7 := (x06.chg c7).mono (fun b hb => .inr (hB3 b hb))
    have hok := G6.ok
    have hM7 := G7.lt
    clear t6 u6 a96 r96 c7 x06 G6 r6 a6
    repeat' (first|(refine st_bin (d := some 39) (v := .int .i64 (andI z.sm.fee 16777215)) rfl rfl rfl ?_)|(first|refine go1 ?_|refine zg (fun _ _=>?_)|refine zi (fun _ _=>?_))|(refine zC rfl (radd_spec (M := M7) (l := l) (cs := txCs t iv5 ov5) (t := t) (andI z.sm.fee 16777215) _ u7 t7 hsm hf (by omega) hok hM7) ?_; rintro _ w8 ⟨u8, rfl, hu8, x8⟩))
    have hla := @addG_le l t (andI z.sm.fee 16777215)
    exact ⟨(i + 1, (addG l t (andI z.sm.fee 16777215)).1, M7, u8), ⟨rfl, rfl, rfl, rfl, rfl, trivial⟩, ⟨x07.trans x8, by simp; omega, by simp only; omega, addG_fee hfl hfb, G7.ext x8, hu8⟩, by simp; omega⟩
  · exact x_ret rfl ⟨g, M, u, l, rfl, G3, u3, by omega, hfl, x3⟩
end Go.Proofs.YteggaepppahefaaGreat
end
section
namespace Go.Proofs.YteggaepppahefaaGreat
open Go Go.K
attribute [local irreducible] regK codeK retK KOp.wp K.Spec u32 leS vnS str zero32 sha2 encT idT sizeT checkT grantB idN hangs stepR findI

abbrev bBase (l : List Ent) (id : ByteArray) (i : Nat) : Bool := decide ((i : Int) = findI l id)
abbrev bEdge (l : List Ent) (k i : Nat) : Bool := hangE l i k
theorem stepR_none {base : Nat → Bool} {edge : Nat → Nat → Bool} {n : Nat} (h : ∀ i, i < n → base i = false) : ∀ (r i : Nat), i < n → stepR base edge n r i = false
  | 0, i, _ => by unfold stepR; rfl
  | r + 1, i, hi => by
    rw [← Bool.not_eq_true, stepR_succ]
    rintro (h1 | ⟨k, h1, h2, h3⟩)
    · rw [h i hi] at h1; cases h1
    · rw [stepR_none h r k h1] at h2; cases h2
end Go.Proofs.YteggaepppahefaaGreat
end
