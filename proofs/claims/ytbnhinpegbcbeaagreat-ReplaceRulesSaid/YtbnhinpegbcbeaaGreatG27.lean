/- Contracts: transactions made of small numbers. Contracts: transactions cut to a size. -/
import Derived.Test.YtbnhinpegbcbeaaGreatG26
set_option linter.unusedVariables false
set_option linter.unusedSimpArgs false
section
namespace Go.Proofs.YtbnhinpegbcbeaaGreat
open Go Go.K
attribute [local irreducible] regK codeK retK KOp.wp K.Spec u32 leS vnS str zero32 sha2 encT idT sizeT checkT grantB idN

theorem wrap_m (b : UInt8) : IntKind.u32.wrap (b.toNat : Nat) = (b.toNat : Nat) := by
  have h : IntKind.u32.wrap (b.toNat : Nat) = (b.toNat : Nat) % 4294967296 := rfl
  have := b.toNat_lt
  rw [h]; omega
noncomputable def pI (z : Small) (i : Nat) : Int := (rem_u32 ((IntKind.i64.wrap (z.idx.toNat : Nat)).fdiv (2 ^ (min (2 * (i : Int)).toNat IntKind.i64.bits)))).choose
theorem pI_spec (z : Small) (i : Nat) : binVal .rem (.int .u32 (IntKind.u32.wrap ((IntKind.i64.wrap (z.idx.toNat : Nat)).fdiv (2 ^ (min (2 * (i : Int)).toNat IntKind.i64.bits))))) (.int .u32 4) = some (.int .u32 (pI z i)) := (rem_u32 _).choose_spec.1
theorem pI_lt (z : Small) (i : Nat) : 0 ≤ pI z i ∧ pI z i < 4 := (rem_u32 _).choose_spec.2
attribute [local irreducible] pI
set_option maxHeartbeats 4000000 in
theorem make_spec {M : List Nat} {v : Value} {cs : List Value} {l : List Ent} {z : Small} (w : World) (hl : SlR entR M w v l) (hz : smallR.rel M w cs z) (hn : l.length ≤ 100000) (hm : z.frm.length ≤ 9223372036854775807) (hid : ∀ x ∈ l, x.id.size = 32) (hM : ∀ b ∈ M, b < w.heap.size) :
    K.Spec Tryz.prog F.kedgeref14_Make [v, .agg cs.toArray] w fun r w' => ∃ cs' t, r = .agg cs'.toArray ∧ txO w.heap.size M w' cs' t ∧ Made z t ∧ Ext w w' := by
  obtain ⟨fv, rfl, hfr, hfe⟩ := hz
  refine s_kedgeref14_Make rfl ?_
  unfold k_kedgeref14_Make
  refine ox ?_
  repeat (first|refine go ?_|refine zg (fun _ _=>?_)|refine zi (fun _ _=>?_))
  refine zD rfl rfl (fun bp wp xp ap rp hp0 => ?_)
  repeat (first|refine go ?_|refine zg (fun _ _=>?_)|refine zi (fun _ _=>?_))
  refine zH (fun b4 w4 x4 a4 hb4 => ?_)
  repeat (first|refine go ?_|refine zg (fun _ _=>?_)|refine zi (fun _ _=>?_))
  refine zE (fun _=>rfl) rfl rfl rfl (fun b5 w5 x5 a5 r5 hb5=>?_)
  have lp := ap.lt
  have l4 := a4.lt
  have l5 := a5.lt
  have sp := xp.size
  have s4 := x4.size
  have s5 := x5.size
  obtain ⟨M1, hM1⟩ : ∃ M1, M1 = [b4, b5] ++ M := ⟨_, rfl⟩
  have hM1b : ∀ b ∈ M1, b < w5.heap.size := by
    intro y hy; rw [hM1] at hy; simp at hy
    rcases hy with h | h | h
    · omega
    · omega
    · have := hM y h; omega
  have m4 : b4 ∈ M1 := by rw [hM1]; simp
  have m5 : b5 ∈ M1 := by rw [hM1]; simp
  have mM : ∀ b ∈ M, b ∈ M1 := by intro y hy; rw [hM1]; simp [hy]
  have a4' : At w5 b4 (.cells [Value.int .u32 0, .slice none 0 0, .slice none 0 0, .int .u32 0].toArray T.api_Tx (0, 0)) := At.ext x5 a4
  have a5' : At w5 b5 (.cells [Value.int .u32 2, .slice none 0 0, .slice none 0 0, .int .u32 (IntKind.u32.wrap (z.mark.toNat : Nat))].toArray T.api_Tx (0, 0)) := a5
  rw [wrap_m] at a5'
  have ap' : At w5 bp (.cells (smallCs z fv).toArray T.kedgeref14_Small (0, 0)) := At.ext x5 (At.ext x4 ap)
  have xw : Unit → Ext w w5 := fun _ => (xp.trans x4).trans x5
  repeat' (first|(first|refine go1 ?_|refine zg (fun _ _=>?_)|refine zi (fun _ _=>?_))|refine zJ rfl (fun h => ?_) (fun h => ?_)|refine zL rfl (fun h => ?_) (fun h => ?_)|refine zB ?_ ?_|(refine zG (E := u8R) (M := M) rfl (SlR.ext (w := w) hfr (by exact fx)) ?_)|(refine zG (E := entR) (M := M) rfl (SlR.ext (w := w) hl (by exact fx)) ?_)|(refine c_loopV (fun (p : Nat × Value × List TIn) w' => Ext w w' ∧ w5.heap.size ≤ w'.heap.size ∧ At w' bp (.cells (smallCs z fv).toArray T.kedgeref14_Small (0, 0)) ∧ p.1 ≤ z.frm.length ∧ p.1 ≤ 4 ∧ p.2.2.length = p.1 ∧ (∀ x ∈ p.2.2, InMade x) ∧ At w' b4 (.cells [Value.int .u32 0, .slice none 0 0, .slice none 0 0, .int .u32 0].toArray T.api_Tx (0, 0)) ∧ At w' b5 (.cells [Value.int .u32 2, p.2.1, .slice none 0 0, .int .u32 (z.mark.toNat : Nat)].toArray T.api_Tx (0, 0)) ∧ OwnR inR T.api_In w5.heap.size M1 w' p.2.1 p.2.2) (fun p => [(0, v), (3, .pointer (some ⟨bp, 0, none⟩)), (4, .pointer (some ⟨b4, 0, none⟩)), (5, .pointer (some ⟨b5, 0, none⟩)), (6, .int .i64 p.1)]) (fun p => 4 - p.1) (0, .slice none 0 0, []) ⟨rfl, rfl, rfl, rfl, rfl, trivial⟩ ⟨xw (), Nat.le_refl _, ap', by simp, by simp, rfl, by simp, a4', a5', OwnR.nil _ _ _ _⟩ ?_; rintro ⟨i, vi, L⟩ ρ w6 ⟨x6, s56, q3, hi1, hi2, hL, hLm, q4, q5, o1⟩; simp only at hi1 hi2 hL hLm q5 o1; dsimp only; have q3r := Row.of_at q3))
  · have hif : i < z.frm.length := by omega
    have q5r : Row w6 ⟨b5, 0, none⟩ [Value.int .u32 2, vi, .slice none 0 0, .int .u32 (z.mark.toNat : Nat)] := Row.of_at q5
    have x56 : Unit → Ext w w6 := fun _ => x6
    clear x6
    refine st_elemR (d := some 29) (E := u8R) (M := M) rfl rfl (n := i) (l := z.frm) (hfr.ext (x56 ())) rfl hif (fun ad cs r7 he => ?_)
    subst he
    have hpi := pI_lt z i
    repeat' (first|(have _ := hs9; refine st_build (d := some 61) (cs := [.string (l[n9].id), .int .u32 (pI z i)]) rfl ?_)|(have _ := hs9; refine st_build (d := some 62) (cs := inCs ⟨⟨l[n9].id, pI z i⟩, 4294967293, []⟩ (.slice none 0 0)) rfl ?_)|(have _ := hs8; refine st_build (d := some 61) (cs := [.string (idN (z.frm[i].toNat % 16)), .int .u32 (pI z i)]) rfl ?_)|(have _ := hs8; refine st_build (d := some 62) (cs := inCs ⟨⟨idN (z.frm[i].toNat % 16), pI z i⟩, 4294967293, []⟩ (.slice none 0 0)) rfl ?_)|(refine st_fixV (.int .i64 (z.frm[i].toNat : Nat)) rfl (congrArg (fun n => some (Value.int .i64 n)) (wrap_u8 z.frm[i])) ?_)|(refine st_rem (n := z.frm[i].toNat) (m := 16) rfl rfl (by decide) ?_)|(refine st_rem (n := z.frm[i].toNat) (m := l.length) rfl rfl (by omega) ?_)|(refine st_mul rfl rfl (by omega) ?_)|(refine st_shr rfl rfl (by omega) ?_)|(refine st_bin rfl rfl (pI_spec z i) ?_)|(first|refine go1 ?_|refine zg (fun _ _=>?_)|refine zi (fun _ _=>?_))|refine zJ rfl (fun h => ?_) (fun h => ?_)|refine zL rfl (fun h => ?_) (fun h => ?_)|refine zB ?_ ?_|(refine zC rfl (idn_spec (z.frm[i].toNat % 16) _) ?_; rintro _ w8 ⟨rfl, x8⟩; have hs8 := idN_size (z.frm[i].toNat % 16))|(refine st_lenR (E := entR) (M := M) (l := l) rfl (SlR.ext hl ((x56 ()).trans x8)) ?_)|(have h9 := Nat.mod_lt z.frm[i].toNat (show 0 < l.length by omega); generalize z.frm[i].toNat % l.length = n9 at h9 ⊢; refine st_elemR (d := some 47) (E := entR) (M := M) rfl rfl (n := n9) (l := l) (SlR.ext hl ((x56 ()).trans x8)) rfl h9 (fun ad cs r9 he => ?_); obtain ⟨iv9, ov9, rfl, g1, g2, g3⟩ := he; have hs9 := hid _ (List.getElem_mem h9))|(have hS := hs9; refine zI (cs := inCs ⟨⟨l[n9].id, pI z i⟩, 4294967293, []⟩ (.slice none 0 0)) rfl (fun b w9 x9 a9 hb => ?_); obtain ⟨S, hSe⟩ : ∃ S, S = l[n9].id := ⟨_, rfl⟩; rw [← hSe] at a9 hS)|(have hS := hs8; refine zI (cs := inCs ⟨⟨idN (z.frm[i].toNat % 16), pI z i⟩, 4294967293, []⟩ (.slice none 0 0)) rfl (fun b w9 x9 a9 hb => ?_); obtain ⟨S, hSe⟩ : ∃ S, S = idN (z.frm[i].toNat % 16) := ⟨_, rfl⟩; rw [← hSe] at a9 hS)|(refine st_append1 (d := some 64) (E := inR) (M := M1) (v := vi) (cs := inCs ⟨⟨S, pI z i⟩, 4294967293, []⟩ (.slice none 0 0)) (a := ⟨⟨S, pI z i⟩, 4294967293, []⟩) rfl rfl (o1.ext (by exact fx)) (Nat.le_trans s56 (Ext.size (w := w6) (by exact fx))) rfl rfl a9 ⟨_, rfl, SlR.nil _ _, by show is32 (pI z i); unfold is32; omega, by show is32 4294967293; unfold is32; omega⟩ (by omega) (fun v10 w10 o10 c10 hb10 => ?_)))
    all_goals
      have g1 := o1.base
      have l1 := o1.lt
      have s69 := Ext.size (w := w6) (w' := w9) (by exact fx)
      have h4v : b4 ∉ blkOf vi := fun h => by have := g1 _ h; omega
      have h5v : b5 ∉ blkOf vi := fun h => by have := g1 _ h; omega
      have x69 : Unit → Ext w6 w9 := fun _ => by exact fx
      have hpv : bp ∉ blkOf vi := fun h => by have := g1 _ h; omega
      have q3' := At.chg c10 (q3.ext (x69 ())) hpv
      have q4' := At.chg c10 (q4.ext (x69 ())) h4v
      have q5' := At.chg c10 (q5.ext (x69 ())) h5v
      have l10 := o10.lt
      have g10 := o10.base
      repeat (first|refine go1 ?_|refine zg (fun _ _=>?_)|refine zi (fun _ _=>?_))
      refine st_store (b := b5) (o := 1) (cur := [Value.int .u32 2, vi, .slice none 0 0, .int .u32 (z.mark.toNat : Nat)]) rfl rfl o10.one q5' (Nat.le_of_ble_eq_true rfl) (fun w11 c11 a11 => ?_)
      repeat (first|refine go1 ?_|refine zg (fun _ _=>?_)|refine zi (fun _ _=>?_))
      have h5w : b5 ∉ blkOf v10 := fun h => by have := g10 _ h; omega
      have o11 := o10.step c11 (M' := M1) (by intro y hy; simp at hy; subst hy; exact ⟨h5w, .inl m5⟩) (fun _ h => .inl h)
      refine ⟨(i + 1, v10, L ++ [⟨⟨S, pI z i⟩, 4294967293, []⟩]), ⟨rfl, rfl, rfl, rfl, rfl, trivial⟩, ⟨?_, by have := c10.size; have := c11.size; omega, At.chg c11 q3' (by simp; omega), by simp; omega, by simp; omega, by simp; omega, ?_, At.chg c11 q4' (by simp; omega), a11, o11⟩, by simp; omega⟩
      · exact (Ext.chg ((x56 ()).trans (x69 ())) (c10.trans c11)).mono (by
          intro y hy
          rcases List.mem_append.1 hy with h | h
          · have := g1 _ h; right; omega
          · simp at h; right; omega)
      · intro x hx
        rcases List.mem_append.1 hx with h | h
        · exact hLm x h
        · simp at h; subst h; exact ⟨hpi.1, hpi.2, rfl, rfl, hS⟩
  all_goals
    have hLn : L.length = min z.frm.length 4 := by omega
    have hz8 := z.long.toNat_lt
    have hI0 := o1.base
    have hI1 := o1.lt
    have oI := o1
    clear xw
    repeat' (first|(refine st_build (d := some 78) (cs := outCs ⟨1000 + (k : Int), ⟨#[1, 1, 0, 0, 0, 0, 0, 0, 0]⟩⟩) rfl ?_)|(refine st_build (d := some 91) (cs := outCs ⟨1000, ⟨#[48, 49, 50, 51, 52, 53, 54, 55, 56, 57, 48, 49, 50, 51, 52, 53, 54, 55, 56, 57, 48, 49, 50, 51, 52, 53, 54, 55, 56, 57, 48, 49, 50, 51, 52, 53, 54, 55, 56, 57]⟩⟩) rfl ?_)|(refine st_bin rfl rfl (rem_u8 z.outs.toNat 3 (by decide)) ?_)|(refine st_fixV (.int .i64 ((z.outs.toNat % 3 : Nat) : Int)) rfl (congrArg (fun n => some (Value.int .i64 n)) (wrap_n8 (by omega))) ?_)|(refine st_fixV (.int .i64 (z.long.toNat : Nat)) rfl (congrArg (fun n => some (Value.int .i64 n)) (wrap_u8 z.long)) ?_)|(first|refine go1 ?_|refine zg (fun _ _=>?_)|refine zi (fun _ _=>?_))|refine zL rfl (fun h => ?_) (fun h => ?_)|(refine c_loopV (fun (p : Nat × Value × List TOut) w' => Ext w w' ∧ w6.heap.size ≤ w'.heap.size ∧ At w' bp (.cells (smallCs z fv).toArray T.kedgeref14_Small (0, 0)) ∧ p.1 ≤ z.outs.toNat % 3 + 1 ∧ p.2.2.length = p.1 ∧ (∀ y ∈ p.2.2, OutMade y) ∧ At w' b4 (.cells [Value.int .u32 0, .slice none 0 0, .slice none 0 0, .int .u32 0].toArray T.api_Tx (0, 0)) ∧ At w' b5 (.cells [Value.int .u32 2, vi, p.2.1, .int .u32 (z.mark.toNat : Nat)].toArray T.api_Tx (0, 0)) ∧ OwnR inR T.api_In w5.heap.size (blkOf p.2.1 ++ M1) w' vi L ∧ OwnR outR T.api_Out w6.heap.size (blkOf vi ++ M1) w' p.2.1 p.2.2) (fun p => [(3, .pointer (some ⟨bp, 0, none⟩)), (4, .pointer (some ⟨b4, 0, none⟩)), (5, .pointer (some ⟨b5, 0, none⟩)), (9, .int .i64 p.1)]) (fun p => z.outs.toNat % 3 + 1 - p.1) (0, .slice none 0 0, []) ⟨rfl, rfl, rfl, rfl, trivial⟩ ⟨x6, Nat.le_refl _, q3, by simp, rfl, by simp, q4, q5, o1, OwnR.nil _ _ _ _⟩ ?_; rintro ⟨k, vo, O⟩ ρ7 w7 ⟨x7, s67, t3, hk1, hO, hOm, t4, t5, u1, u2⟩; simp only at hk1 hO hOm t5 u1 u2; dsimp only; have t3r := Row.of_at t3; have t5r : Row w7 ⟨b5, 0, none⟩ [Value.int .u32 2, vi, vo, .int .u32 (z.mark.toNat : Nat)] := Row.of_at t5)|(refine c_loopV (fun (p : Nat × Value × List TOut) w' => Ext w w' ∧ w6.heap.size ≤ w'.heap.size ∧ At w' bp (.cells (smallCs z fv).toArray T.kedgeref14_Small (0, 0)) ∧ p.1 ≤ z.long.toNat ∧ p.2.2.length = z.outs.toNat % 3 + 1 + p.1 ∧ (∀ y ∈ p.2.2, OutMade y) ∧ At w' b4 (.cells [Value.int .u32 0, .slice none 0 0, .slice none 0 0, .int .u32 0].toArray T.api_Tx (0, 0)) ∧ At w' b5 (.cells [Value.int .u32 2, vi, p.2.1, .int .u32 (z.mark.toNat : Nat)].toArray T.api_Tx (0, 0)) ∧ OwnR inR T.api_In w5.heap.size (blkOf p.2.1 ++ M1) w' vi L ∧ OwnR outR T.api_Out w6.heap.size (blkOf vi ++ M1) w' p.2.1 p.2.2) (fun p => [(3, .pointer (some ⟨bp, 0, none⟩)), (4, .pointer (some ⟨b4, 0, none⟩)), (5, .pointer (some ⟨b5, 0, none⟩)), (10, .int .i64 p.1)]) (fun p => z.long.toNat - p.1) (0, vo, O) ⟨rfl, rfl, rfl, rfl, trivial⟩ ⟨x7, s67, t3, by simp, by simp only; omega, hOm, t4, t5, u1, u2⟩ ?_; clear hk1 hO hOm t3 t3r t4 t5 t5r u1 u2 s67 x7; clear ρ7 h; rintro ⟨j, vo, O⟩ ρ7 w7 ⟨x7, s67, t3, hj1, hO, hOm, t4, t5, u1, u2⟩; simp only at hj1 hO hOm t5 u1 u2; dsimp only; have t3r := Row.of_at t3; have t5r : Row w7 ⟨b5, 0, none⟩ [Value.int .u32 2, vi, vo, .int .u32 (z.mark.toNat : Nat)] := Row.of_at t5))
    · have g2 := u2.base
      have l2 := u2.lt
      refine zI (d := some 79) (cs := outCs ⟨1000 + (k : Int), ⟨#[1, 1, 0, 0, 0, 0, 0, 0, 0]⟩⟩) rfl (fun b w9 x9 a9 hb => ?_)
      have s9 := x9.size
      refine st_append1 (d := some 80) (E := outR) (M := blkOf vi ++ M1) (v := vo) (cs := outCs ⟨1000 + (k : Int), ⟨#[1, 1, 0, 0, 0, 0, 0, 0, 0]⟩⟩) (a := ⟨1000 + (k : Int), ⟨#[1, 1, 0, 0, 0, 0, 0, 0, 0]⟩⟩) rfl rfl (u2.ext x9) (Nat.le_trans s67 s9) rfl rfl a9 ⟨rfl, by show is64 (1000 + (k : Int)); unfold is64; omega⟩ (by omega) (fun v10 w10 o10 c10 hb10 => ?_)
      have h3o : bp ∉ blkOf vo := fun h => by have := g2 _ h; omega
      have h4o : b4 ∉ blkOf vo := fun h => by have := g2 _ h; omega
      have h5o : b5 ∉ blkOf vo := fun h => by have := g2 _ h; omega
      have hvo : ∀ b ∈ blkOf vo, b ∉ blkOf vi := fun b h h' => by have := g2 _ h; have := hI1 _ h'; omega
      have u1' := (u1.ext x9).step c10 (M' := blkOf v10 ++ M1) (fun b h => ⟨hvo b h, .inl (by simp [h])⟩) (fun b h => by
        rcases List.mem_append.1 h with h | h
        · rcases hb10 b h with h | h
          · exact .inl (by simp [h])
          · exact .inr h
        · exact .inl (by simp [h]))
      have t3' := At.chg c10 (t3.ext x9) h3o
      have t4' := At.chg c10 (t4.ext x9) h4o
      have t5' := At.chg c10 (t5.ext x9) h5o
      have g10 := o10.base
      have s10 := c10.size
      have xwx : Unit → Chg (blkOf vo) w w10 := fun _ => Ext.chg (x7.trans x9) c10
      clear x9
      repeat (first|refine go1 ?_|refine zg (fun _ _=>?_)|refine zi (fun _ _=>?_))
      refine st_store (b := b5) (o := 2) (cur := [Value.int .u32 2, vi, vo, .int .u32 (z.mark.toNat : Nat)]) rfl rfl o10.one t5' (Nat.le_of_ble_eq_true rfl) (fun w11 c11 a11 => ?_)
      have h5v : b5 ∉ blkOf vi := fun h => by have := hI0 _ h; omega
      have h5w : b5 ∉ blkOf v10 := fun h => by have := g10 _ h; omega
      have u11 := u1'.step c11 (M' := blkOf v10 ++ M1) (by intro y hy; simp at hy; subst hy; exact ⟨h5v, .inl (by simp [m5])⟩) (fun _ h => .inl h)
      have o11 := o10.step c11 (M' := blkOf vi ++ M1) (by intro y hy; simp at hy; subst hy; exact ⟨h5w, .inl (by simp [m5])⟩) (fun _ h => .inl h)
      have s11 := c11.size
      have x11 : Unit → Ext w w11 := fun _ => ((xwx ()).trans c11).mono (by
        intro y hy
        rcases List.mem_append.1 hy with h | h
        · have := g2 _ h; right; omega
        · simp at h; right; omega)
      repeat (first|refine go1 ?_|refine zg (fun _ _=>?_)|refine zi (fun _ _=>?_))
      refine ⟨(k + 1, v10, O ++ [⟨1000 + (k : Int), ⟨#[1, 1, 0, 0, 0, 0, 0, 0, 0]⟩⟩]), ⟨rfl, rfl, rfl, rfl, trivial⟩, ⟨x11 (), by omega, At.chg c11 t3' (by simp; omega), by simp; omega, by simp; omega, ?_, At.chg c11 t4' (by simp; omega), a11, u11, o11⟩, by simp; omega⟩
      intro y hy
      rcases List.mem_append.1 hy with h | h
      · exact hOm y h
      · simp at h; subst h; exact ⟨by show (0 : Int) ≤ 1000 + (k : Int); omega, by show 1000 + (k : Int) ≤ 2000; omega, by show 9 ≤ 40; decide⟩
    · have g2 := u2.base
      have l2 := u2.lt
      refine zI (d := some 92) (cs := outCs ⟨1000, ⟨#[48, 49, 50, 51, 52, 53, 54, 55, 56, 57, 48, 49, 50, 51, 52, 53, 54, 55, 56, 57, 48, 49, 50, 51, 52, 53, 54, 55, 56, 57, 48, 49, 50, 51, 52, 53, 54, 55, 56, 57]⟩⟩) rfl (fun b w9 x9 a9 hb => ?_)
      have s9 := x9.size
      refine st_append1 (d := some 93) (E := outR) (M := blkOf vi ++ M1) (v := vo) (cs := outCs ⟨1000, ⟨#[48, 49, 50, 51, 52, 53, 54, 55, 56, 57, 48, 49, 50, 51, 52, 53, 54, 55, 56, 57, 48, 49, 50, 51, 52, 53, 54, 55, 56, 57, 48, 49, 50, 51, 52, 53, 54, 55, 56, 57]⟩⟩) (a := ⟨1000, ⟨#[48, 49, 50, 51, 52, 53, 54, 55, 56, 57, 48, 49, 50, 51, 52, 53, 54, 55, 56, 57, 48, 49, 50, 51, 52, 53, 54, 55, 56, 57, 48, 49, 50, 51, 52, 53, 54, 55, 56, 57]⟩⟩) rfl rfl (u2.ext x9) (Nat.le_trans s67 s9) rfl rfl a9 ⟨rfl, by show is64 (1000); unfold is64; omega⟩ (by omega) (fun v10 w10 o10 c10 hb10 => ?_)
      have h3o : bp ∉ blkOf vo := fun h => by have := g2 _ h; omega
      have h4o : b4 ∉ blkOf vo := fun h => by have := g2 _ h; omega
      have h5o : b5 ∉ blkOf vo := fun h => by have := g2 _ h; omega
      have hvo : ∀ b ∈ blkOf vo, b ∉ blkOf vi := fun b h h' => by have := g2 _ h; have := hI1 _ h'; omega
      have u1' := (u1.ext x9).step c10 (M' := blkOf v10 ++ M1) (fun b h => ⟨hvo b h, .inl (by simp [h])⟩) (fun b h => by
        rcases List.mem_append.1 h with h | h
        · rcases hb10 b h with h | h
          · exact .inl (by simp [h])
          · exact .inr h
        · exact .inl (by simp [h]))
      have t3' := At.chg c10 (t3.ext x9) h3o
      have t4' := At.chg c10 (t4.ext x9) h4o
      have t5' := At.chg c10 (t5.ext x9) h5o
      have g10 := o10.base
      have s10 := c10.size
      have xwx : Unit → Chg (blkOf vo) w w10 := fun _ => Ext.chg (x7.trans x9) c10
      clear x9
      repeat (first|refine go1 ?_|refine zg (fun _ _=>?_)|refine zi (fun _ _=>?_))
      refine st_store (b := b5) (o := 2) (cur := [Value.int .u32 2, vi, vo, .int .u32 (z.mark.toNat : Nat)]) rfl rfl o10.one t5' (Nat.le_of_ble_eq_true rfl) (fun w11 c11 a11 => ?_)
      have h5v : b5 ∉ blkOf vi := fun h => by have := hI0 _ h; omega
      have h5w : b5 ∉ blkOf v10 := fun h => by have := g10 _ h; omega
      have u11 := u1'.step c11 (M' := blkOf v10 ++ M1) (by intro y hy; simp at hy; subst hy; exact ⟨h5v, .inl (by simp [m5])⟩) (fun _ h => .inl h)
      have o11 := o10.step c11 (M' := blkOf vi ++ M1) (by intro y hy; simp at hy; subst hy; exact ⟨h5w, .inl (by simp [m5])⟩) (fun _ h => .inl h)
      have s11 := c11.size
      have x11 : Unit → Ext w w11 := fun _ => ((xwx ()).trans c11).mono (by
        intro y hy
        rcases List.mem_append.1 hy with h | h
        · have := g2 _ h; right; omega
        · simp at h; right; omega)
      repeat (first|refine go1 ?_|refine zg (fun _ _=>?_)|refine zi (fun _ _=>?_))
      refine ⟨(j + 1, v10, O ++ [⟨1000, ⟨#[48, 49, 50, 51, 52, 53, 54, 55, 56, 57, 48, 49, 50, 51, 52, 53, 54, 55, 56, 57, 48, 49, 50, 51, 52, 53, 54, 55, 56, 57, 48, 49, 50, 51, 52, 53, 54, 55, 56, 57]⟩⟩]), ⟨rfl, rfl, rfl, rfl, trivial⟩, ⟨x11 (), by omega, At.chg c11 t3' (by simp; omega), by simp; omega, by simp; omega, ?_, At.chg c11 t4' (by simp; omega), a11, u11, o11⟩, by simp; omega⟩
      intro y hy
      rcases List.mem_append.1 hy with h | h
      · exact hOm y h
      · simp at h; subst h; exact ⟨by show (0 : Int) ≤ 1000; decide, by show (1000 : Int) ≤ 2000; decide, by show 40 ≤ 40; decide⟩
    · have hj : j = z.long.toNat := by omega
      subst hj
      refine st_setN (w0 := w) (vs := [Value.int .u32 2, vi, vo, .int .u32 (z.mark.toNat : Nat)]) x7 (by omega) t4 rfl rfl rfl rfl ?_ (fun w12 x12 c12 a12 r12 => ?_)
      · have e1 := u1.one
        have e2 := u2.one
        simp [e1, e2]; exact ⟨rfl, rfl⟩
      repeat (first|refine go1 ?_|refine zg (fun _ _=>?_)|refine zi (fun _ _=>?_))
      have g2 := u2.base
      have h4i : b4 ∉ blkOf vi := fun h => by have := hI0 _ h; omega
      have h4o : b4 ∉ blkOf vo := fun h => by have := g2 _ h; omega
      have p1 := (u1.step (M' := M1) c12 (by intro y hy; simp at hy; subst hy; exact ⟨h4i, .inl (by simp [m4])⟩) (fun _ h => .inl (by simp [h]))).sub (M' := M) (fun b hb => .inl (mM b hb))
      have p2 := (u2.step (M' := M1) c12 (by intro y hy; simp at hy; subst hy; exact ⟨h4o, .inl (by simp [m4])⟩) (fun _ h => .inl (by simp [h]))).sub (M' := M) (fun b hb => .inl (mM b hb))
      exact x_ret (ret1 (rv_cell r12 rfl rfl)) ⟨_, ⟨2, L, O, (z.mark.toNat : Nat)⟩, rfl, ⟨vi, vo, rfl, p1.lower (by omega), p2.lower (by omega), by show is32 2; unfold is32; omega, is32_u8 z.mark⟩, ⟨rfl, rfl, hLn, hLm, by simp only; omega, hOm⟩, x12⟩
end Go.Proofs.YtbnhinpegbcbeaaGreat
end
section
namespace Go.Proofs.YtbnhinpegbcbeaaGreat
open Go Go.K
attribute [local irreducible] regK codeK retK KOp.wp K.Spec u32 leS vnS str zero32 sha2 encT idT sizeT checkT grantB idN

/-- What came in is not beyond all. -/
structure _root_.Go.K.Tx.Raw (t : Tx) : Prop where
  ins : t.ins.length ≤ 9223372036854775807
  outs : t.outs.length ≤ 9223372036854775807
  wit : ∀ x ∈ t.ins, x.wit.length ≤ 9223372036854775807
/-- What is left of a transaction is small. -/
structure _root_.Go.K.Tx.Cut (t : Tx) (n : Nat) : Prop where
  ins : t.ins.length ≤ n
  outs : t.outs.length ≤ n
  wit : ∀ x ∈ t.ins, x.wit.length ≤ 6
set_option maxHeartbeats 4000000 in
theorem cut_spec {M : List Nat} {cs : List Value} {t : Tx} (most : Nat) (w : World) (ht : txR.rel M w cs t) (hr : t.Raw) (hm : most ≤ 1000) (hM : ∀ b ∈ M, b < w.heap.size) :
    K.Spec Tryz.prog F.kedgeref05_Cut [.agg cs.toArray, .int .i64 (most : Nat)] w fun r w' => ∃ cs' t', r = .agg cs'.toArray ∧ txO w.heap.size M w' cs' t' ∧ t'.Cut most ∧ Ext w w' := by
  obtain ⟨iv, ov, rfl, h1, h2, h3⟩ := ht
  have hr1 := hr.ins
  have hr2 := hr.outs
  refine s_kedgeref05_Cut rfl ?_
  unfold k_kedgeref05_Cut
  refine ox ?_
  repeat (first|refine go ?_|refine zg (fun _ _=>?_)|refine zi (fun _ _=>?_))
  refine zD rfl rfl (fun bp wp xp ap rp hp0 => ?_)
  repeat (first|refine go ?_|refine zg (fun _ _=>?_)|refine zi (fun _ _=>?_))
  refine zH (fun b4 w4 x4 a4 hb4 => ?_)
  repeat' (first|(refine st_build (cs := [.int .u32 t.ver, .slice none 0 0, .slice none 0 0, .int .u32 t.lock]) rfl ?_)|(first|refine go1 ?_|refine zg (fun _ _=>?_)|refine zi (fun _ _=>?_)))
  refine zE (fun _=>rfl) rfl rfl rfl (fun b5 w5 x5 a5 r5 hb5=>?_)
  have lp := ap.lt
  have l4 := a4.lt
  have l5 := a5.lt
  have sp := xp.size
  have s4 := x4.size
  have s5 := x5.size
  obtain ⟨M1, hM1⟩ : ∃ M1, M1 = [b4, b5] ++ M := ⟨_, rfl⟩
  have hM1b : ∀ b ∈ M1, b < w5.heap.size := by
    intro y hy; rw [hM1] at hy; simp at hy
    rcases hy with h | h | h
    · omega
    · omega
    · have := hM y h; omega
  have m4 : b4 ∈ M1 := by rw [hM1]; simp
  have m5 : b5 ∈ M1 := by rw [hM1]; simp
  have mM : ∀ b ∈ M, b ∈ M1 := by intro y hy; rw [hM1]; simp [hy]
  have a4' : At w5 b4 (.cells [Value.int .u32 0, .slice none 0 0, .slice none 0 0, .int .u32 0].toArray T.api_Tx (0, 0)) := At.ext x5 a4
  have a5' : At w5 b5 (.cells [Value.int .u32 t.ver, .slice none 0 0, .slice none 0 0, .int .u32 t.lock].toArray T.api_Tx (0, 0)) := a5
  have ap' : At w5 bp (.cells (txCs t iv ov).toArray T.api_Tx (0, 0)) := At.ext x5 (At.ext x4 ap)
  have xw : Unit → Ext w w5 := fun _ => (xp.trans x4).trans x5
  clear a5 a4 ap rp r5 x5 x4 xp
  repeat' (first|(first|refine go1 ?_|refine zg (fun _ _=>?_)|refine zi (fun _ _=>?_))|refine zJ rfl (fun h => ?_) (fun h => ?_)|refine zL rfl (fun h => ?_) (fun h => ?_)|refine zB ?_ ?_|(refine zG (E := inR) (M := M) (l := t.ins) rfl (SlR.ext (w := w) h1 (by first | exact x6 | exact Ext.c (by assumption) x6)) ?_)|(refine c_loopV (fun (p : Nat × Value × List TIn) w' => Ext w w' ∧ w5.heap.size ≤ w'.heap.size ∧ At w' bp (.cells (txCs t iv ov).toArray T.api_Tx (0, 0)) ∧ p.1 ≤ t.ins.length ∧ p.1 ≤ most ∧ p.2.2.length = p.1 ∧ (∀ x ∈ p.2.2, x.wit.length ≤ 6) ∧ At w' b4 (.cells [Value.int .u32 0, .slice none 0 0, .slice none 0 0, .int .u32 0].toArray T.api_Tx (0, 0)) ∧ At w' b5 (.cells [Value.int .u32 t.ver, p.2.1, .slice none 0 0, .int .u32 t.lock].toArray T.api_Tx (0, 0)) ∧ OwnR inR T.api_In w5.heap.size M1 w' p.2.1 p.2.2) (fun p => [(1, .int .i64 (most : Nat)), (2, .pointer (some ⟨bp, 0, none⟩)), (4, .pointer (some ⟨b4, 0, none⟩)), (5, .pointer (some ⟨b5, 0, none⟩)), (6, .int .i64 p.1)]) (fun p => most - p.1) (0, .slice none 0 0, []) ⟨rfl, rfl, rfl, rfl, rfl, trivial⟩ ⟨xw (), Nat.le_refl _, ap', by simp, by simp, rfl, by simp, a4', a5', OwnR.nil _ _ _ _⟩ ?_; rintro ⟨i, vi, L⟩ ρ w6 ⟨x6, s56, q3, hi1, hi2, hL, hLm, q4, q5, o1⟩; simp only at hi1 hi2 hL hLm q5 o1; dsimp only; have q3r := Row.of_at q3; have q5r : Row w6 ⟨b5, 0, none⟩ [Value.int .u32 t.ver, vi, .slice none 0 0, .int .u32 t.lock] := Row.of_at q5))
  · have hil : i < t.ins.length := by omega
    have x6' : Unit → Ext w w6 := fun _ => x6
    have hwl := hr.wit _ (List.getElem_mem hil)
    clear x6
    repeat' (first|(first|refine go1 ?_|refine zg (fun _ _=>?_)|refine zi (fun _ _=>?_))|refine zB ?_ ?_|(refine st_elemR (d := some 32) (E := inR) (M := M) rfl rfl (n := i) (l := t.ins) (SlR.ext h1 (Ext.c (by assumption) (x6' ()))) rfl hil (fun ad cs r8 he => ?_); obtain ⟨wv, rfl, hw, hp5, hp6⟩ := he; obtain ⟨bs1, cp1, rfl⟩ := hw.form)|(refine st_elemR (d := some 38) (E := inR) (M := M) rfl rfl (n := i) (l := t.ins) (SlR.ext h1 (Ext.c (by assumption) (x6' ()))) rfl hil (fun ad cs r9 he => ?_); obtain ⟨wv, rfl, hw, hp5, hp6⟩ := he; obtain ⟨bs1, cp1, rfl⟩ := hw.form)|(refine st_build (d := some 41) (cs := inCs ⟨t.ins[i].p, t.ins[i].q, []⟩ (.slice none 0 0)) rfl ?_)|(refine zH (d := some 7) (fun b7 w7 x7 a7 hb7 => ?_)))
    have l7 := a7.lt
    have s7 := Ext.size (w := w6) (w' := w7) (by exact fx)
    have g7 : w6.heap.size ≤ b7 := Nat.le_trans (Ext.size (by assumption)) hb7
    have gi := o1.base
    have gj := o1.lt
    refine st_storeN0 (vs := inCs ⟨t.ins[i].p, t.ins[i].q, []⟩ (.slice none 0 0)) rfl rfl rfl (all_one rfl) a7 rfl (fun w8 c8 a8 => ?_)
    have x68 : Ext w6 w8 := (Ext.chg (w := w6) (by exact fx) c8).mono (by intro y hy; simp at hy; right; omega)
    have s8 := c8.size
    clear a7 x7 c8 r8 r9
    have r8' := Row.of_at a8
    obtain ⟨M7, hM7⟩ : ∃ M7, M7 = [b7] ++ (blkOf vi ++ M1) := ⟨_, rfl⟩
    have hM7b : ∀ b ∈ M7, b < w8.heap.size := by
      intro y hy; rw [hM7] at hy
      rcases List.mem_append.1 hy with h | h
      · simp at h; omega
      rcases List.mem_append.1 h with h | h
      · have := gj _ h; omega
      · have := hM1b y h; omega
    have m7 : b7 ∈ M7 := by rw [hM7]; simp
    have mvi : ∀ b ∈ blkOf vi ++ M1, b ∈ M7 := by intro y hy; rw [hM7]; exact List.mem_append_right _ hy
    repeat' (first|(refine c_cutV (a := .seq (.reg false (.cons ⟨some 42, _, none⟩ _)) _) (fun (S : ByteArray) w' => Ext w6 w' ∧ w8.heap.size ≤ w'.heap.size ∧ At w' b7 (.cells (inCs ⟨⟨S, t.ins[i].p.i⟩, t.ins[i].q, []⟩ (.slice none 0 0)).toArray T.api_In (0, 0))) (fun _ => [(1, .int .i64 (most : Nat)), (2, .pointer (some ⟨bp, 0, none⟩)), (4, .pointer (some ⟨b4, 0, none⟩)), (5, .pointer (some ⟨b5, 0, none⟩)), (6, .int .i64 i), (7, .pointer (some ⟨b7, 0, none⟩))]) ?_ ?_)|(rintro S ρ7 w9 ⟨x69, sB, a9⟩; clear x68 r8' a8)|(refine c_cutV (a := .seq (.reg false (.cons ⟨some 77, _, none⟩ _)) _) (fun (s : ByteArray) w' => Ext w10 w') (fun s => [(1, .int .i64 (most : Nat)), (2, .pointer (some ⟨bp, 0, none⟩)), (4, .pointer (some ⟨b4, 0, none⟩)), (5, .pointer (some ⟨b5, 0, none⟩)), (6, .int .i64 i), (7, .pointer (some ⟨b7, 0, none⟩)), (8, .int .i64 k), (9, .string s)]) ?_ ?_)|(rintro s ρ9 w12 x1012)|(first|refine go1 ?_|refine zg (fun _ _=>?_)|refine zi (fun _ _=>?_))|refine zJ rfl (fun h => ?_) (fun h => ?_)|refine zL rfl (fun h => ?_) (fun h => ?_)|(refine st_takeStr rfl rfl (by omega) ?_)|(refine st_store (d := none) (b := b7) (o := 0) rfl rfl rfl a8 (Nat.le_of_ble_eq_true rfl) (fun w9 c9 a9 => ?_))|(refine c_loopV (fun (p : Nat × Value × List ByteArray) w' => Ext w6 w' ∧ w9.heap.size ≤ w'.heap.size ∧ p.1 ≤ 6 ∧ p.1 ≤ t.ins[i].wit.length ∧ p.2.2.length = p.1 ∧ At w' b7 (.cells (inCs ⟨⟨S, t.ins[i].p.i⟩, t.ins[i].q, []⟩ p.2.1).toArray T.api_In (0, 0)) ∧ OwnR strR T.string w8.heap.size M7 w' p.2.1 p.2.2) (fun p => [(1, .int .i64 (most : Nat)), (2, .pointer (some ⟨bp, 0, none⟩)), (4, .pointer (some ⟨b4, 0, none⟩)), (5, .pointer (some ⟨b5, 0, none⟩)), (6, .int .i64 i), (7, .pointer (some ⟨b7, 0, none⟩)), (8, .int .i64 p.1)]) (fun p => 6 - p.1) (0, .slice none 0 0, []) ⟨rfl, rfl, rfl, rfl, rfl, rfl, rfl, trivial⟩ ⟨x69, Nat.le_refl _, by simp, by simp, rfl, a9, OwnR.nil _ _ _ _⟩ ?_; clear x69; rintro ⟨k, vw, W⟩ ρ10 w10 ⟨x10, s910, hk1, hk2, hW, a10, ow⟩; simp only at hk1 hk2 hW a10 ow; dsimp only; have r10 := Row.of_at a10)|(refine st_elemR (d := some 57) (E := inR) (M := M) rfl rfl (n := i) (l := t.ins) (SlR.ext h1 (Ext.trans (x6' ()) (by exact fx))) rfl hil (fun ad cs r11 he => ?_); obtain ⟨wv2, rfl, hw2, _⟩ := he; obtain ⟨bs2, cp2, rfl⟩ := hw2.form)|(refine st_elemR (d := some 71) (E := inR) (M := M) rfl rfl (n := i) (l := t.ins) (SlR.ext h1 (Ext.trans (x6' ()) (by exact fx))) rfl hil (fun ad cs r11 he => ?_); obtain ⟨wv2, rfl, hw2, _⟩ := he; obtain ⟨bs2, cp2, rfl⟩ := hw2.form)|(refine st_lenR (E := strR) (M := M) (l := t.ins[i].wit) rfl hw2 ?_)|(refine st_elemR (d := some 75) (E := strR) (M := M) rfl rfl (n := k) (l := t.ins[i].wit) hw2 rfl (by omega) (fun ad cs r12 he => ?_); subst he)|(refine zI (d := some 85) (cs := [.string s]) rfl (fun b w13 x13 a13 hb13 => ?_); have s1013 := Ext.size (w := w10) (w' := w13) (by exact fx))|(refine st_append1 (d := some 86) (E := strR) (M := M7) (v := vw) (cs := [.string s]) (a := s) rfl rfl ((ow.ext x1012).ext x13) (by omega) rfl rfl a13 rfl (by omega) (fun v14 w14 o14 c14 hb14 => ?_))|(refine zI (d := some 91) (cs := inCs ⟨⟨S, t.ins[i].p.i⟩, t.ins[i].q, W⟩ vw) rfl (fun b w13 x13 a13 hb13 => ?_); have s1013 := x13.size)|(refine st_append1 (d := some 92) (E := inR) (M := M1) (v := vi) (cs := inCs ⟨⟨S, t.ins[i].p.i⟩, t.ins[i].q, W⟩ vw) (a := ⟨⟨S, t.ins[i].p.i⟩, t.ins[i].q, W⟩) rfl rfl (o1.ext (x10.trans x13)) (by omega) rfl rfl a13 ⟨vw, rfl, ((ow.ext x13).slB hM7b).sub (fun b hb => .inl (mvi b hb)), by assumption, by assumption⟩ (by omega) (fun v14 w14 o14 c14 hb14 => ?_)))
    · exact ⟨_, ⟨rfl, rfl, rfl, rfl, rfl, rfl, trivial⟩, (x68.chg c9).mono (by intro y hy; simp at hy; right; omega), c9.size, a9⟩
    · exact ⟨_, ⟨rfl, rfl, rfl, rfl, rfl, rfl, trivial⟩, x68, Nat.le_refl _, a8⟩
    · exact ⟨_, ⟨rfl, rfl, rfl, rfl, rfl, rfl, rfl, rfl, trivial⟩, by exact fx⟩
    · exact ⟨_, ⟨rfl, rfl, rfl, rfl, rfl, rfl, rfl, rfl, trivial⟩, by exact fx⟩
    · have gw := ow.base
      have h7w : b7 ∉ blkOf vw := fun h => by have := gw _ h; omega
      have a14 := At.chg c14 (At.ext x13 (At.ext x1012 a10)) h7w
      have g14 := o14.base
      have h7v : b7 ∉ blkOf v14 := fun h => by have := g14 _ h; omega
      refine st_store (d := none) (b := b7) (o := 3) (cur := inCs ⟨⟨S, t.ins[i].p.i⟩, t.ins[i].q, []⟩ vw) rfl rfl o14.one a14 (Nat.le_of_ble_eq_true rfl) (fun w15 c15 a15 => ?_)
      have o15 := o14.step c15 (M' := M7) (by intro y hy; simp at hy; subst hy; exact ⟨h7v, .inl m7⟩) (fun _ h => .inl h)
      have x15 : Unit → Ext w6 w15 := fun _ => (Ext.chg ((x10.trans x1012).trans x13) (c14.trans c15)).mono (by
        intro y hy
        rcases List.mem_append.1 hy with h | h
        · have := gw _ h; right; omega
        · simp at h; right; omega)
      have s14 := c14.size
      have s15 := c15.size
      repeat (first|refine go1 ?_|refine zg (fun _ _=>?_)|refine zi (fun _ _=>?_))
      exact ⟨(k + 1, v14, W ++ [s]), ⟨rfl, rfl, rfl, rfl, rfl, rfl, rfl, trivial⟩, ⟨x15 (), by omega, by simp; omega, by simp; omega, by simp; omega, a15, o15⟩, by simp; omega⟩
    all_goals
      have hpv : bp ∉ blkOf vi := fun h => by have := gi _ h; omega
      have h4v : b4 ∉ blkOf vi := fun h => by have := gi _ h; omega
      have h5v : b5 ∉ blkOf vi := fun h => by have := gi _ h; omega
      have z3 := At.chg c14 (q3.ext (x10.trans x13)) hpv
      have z4 := At.chg c14 (q4.ext (x10.trans x13)) h4v
      have z5 := At.chg c14 (q5.ext (x10.trans x13)) h5v
      have g14 := o14.base
      have h5w : b5 ∉ blkOf v14 := fun h => by have := g14 _ h; omega
      refine st_store (d := none) (b := b5) (o := 1) (cur := [Value.int .u32 t.ver, vi, .slice none 0 0, .int .u32 t.lock]) rfl rfl o14.one z5 (Nat.le_of_ble_eq_true rfl) (fun w15 c15 a15 => ?_)
      have o15 := o14.step c15 (M' := M1) (by intro y hy; simp at hy; subst hy; exact ⟨h5w, .inl m5⟩) (fun _ h => .inl h)
      have x15 : Unit → Ext w w15 := fun _ => (Ext.chg ((x6' ()).trans (x10.trans x13)) (c14.trans c15)).mono (by
        intro y hy
        rcases List.mem_append.1 hy with h | h
        · have := gi _ h; right; omega
        · simp at h; right; omega)
      have s14 := c14.size
      have s15 := c15.size
      have s610 := x10.size
      clear x13
      have hi64 : i ≤ 1000 := by omega
      have hi65 : -9223372036854775808 ≤ (i : Int) + 1 ∧ (i : Int) + 1 ≤ 9223372036854775807 := by omega
      apply z1
      apply zr
      apply zo
      apply zh
      apply z0
      refine st_add rfl rfl hi65 ?_
      clear hM7b mvi m7 hM7 hp5 hp6 hwl
      repeat (first|refine go1 ?_|refine zg (fun _ _=>?_)|refine zi (fun _ _=>?_))
      refine ⟨(i + 1, v14, L ++ [⟨⟨S, t.ins[i].p.i⟩, t.ins[i].q, W⟩]), ⟨rfl, rfl, rfl, rfl, rfl, trivial⟩, ⟨x15 (), by omega, At.chg c15 z3 (by simp; omega), by simp; omega, by simp; omega, by simp; omega, ?_, At.chg c15 z4 (by simp; omega), a15, o15⟩, by simp; omega⟩
      intro x hx
      rcases List.mem_append.1 hx with h | h
      · exact hLm x h
      · simp at h; subst h; simp only; omega
  all_goals
    have hI0 := o1.base
    have hI1 := o1.lt
    have x6' : Unit → Ext w w6 := fun _ => x6
    clear x6 xw
    repeat' (first|(refine c_cutV (a := .seq (.reg false (.cons ⟨some 111, _, none⟩ _)) _) (fun (S : ByteArray) w' => Ext w7 w' ∧ At w' b11 (.cells (outCs ⟨t.outs[k].v, S⟩).toArray T.api_Out (0, 0))) (fun _ => [(1, .int .i64 (most : Nat)), (2, .pointer (some ⟨bp, 0, none⟩)), (4, .pointer (some ⟨b4, 0, none⟩)), (5, .pointer (some ⟨b5, 0, none⟩)), (10, .int .i64 k), (11, .pointer (some ⟨b11, 0, none⟩))]) ?_ ?_)|(rintro S ρ7 w12 ⟨x712, a12⟩; clear x11 a11 r11; have r12 := Row.of_at a12)|(first|refine go1 ?_|refine zg (fun _ _=>?_)|refine zi (fun _ _=>?_))|refine zJ rfl (fun h => ?_) (fun h => ?_)|refine zL rfl (fun h => ?_) (fun h => ?_)|(refine st_takeStr rfl rfl (by omega) ?_)|(refine st_store (d := none) (b := b11) (o := 1) rfl rfl rfl a11 (Nat.le_of_ble_eq_true rfl) (fun w12 c12 a12 => ?_))|(refine st_lenR (E := outR) (M := M) (l := t.outs) rfl (SlR.ext h2 x7) ?_)|(refine c_loopV (fun (p : Nat × Value × List TOut) w' => Ext w w' ∧ w6.heap.size ≤ w'.heap.size ∧ At w' bp (.cells (txCs t iv ov).toArray T.api_Tx (0, 0)) ∧ p.1 ≤ t.outs.length ∧ p.1 ≤ most ∧ p.2.2.length = p.1 ∧ At w' b4 (.cells [Value.int .u32 0, .slice none 0 0, .slice none 0 0, .int .u32 0].toArray T.api_Tx (0, 0)) ∧ At w' b5 (.cells [Value.int .u32 t.ver, vi, p.2.1, .int .u32 t.lock].toArray T.api_Tx (0, 0)) ∧ OwnR inR T.api_In w5.heap.size (blkOf p.2.1 ++ M1) w' vi L ∧ OwnR outR T.api_Out w6.heap.size (blkOf vi ++ M1) w' p.2.1 p.2.2) (fun p => [(1, .int .i64 (most : Nat)), (2, .pointer (some ⟨bp, 0, none⟩)), (4, .pointer (some ⟨b4, 0, none⟩)), (5, .pointer (some ⟨b5, 0, none⟩)), (10, .int .i64 p.1)]) (fun p => most - p.1) (0, .slice none 0 0, []) ⟨rfl, rfl, rfl, rfl, rfl, trivial⟩ ⟨x6' (), Nat.le_refl _, q3, by simp, by simp, rfl, q4, q5, o1, OwnR.nil _ _ _ _⟩ ?_; rintro ⟨k, vo, O⟩ ρ7 w7 ⟨x7, s67, t3, hk1, hk2, hO, t4, t5, u1, u2⟩; simp only at hk1 hk2 hO t5 u1 u2; dsimp only; have t3r := Row.of_at t3; have t5r : Row w7 ⟨b5, 0, none⟩ [Value.int .u32 t.ver, vi, vo, .int .u32 t.lock] := Row.of_at t5)|(refine st_elemR (d := some 109) (E := outR) (M := M) rfl rfl (n := k) (l := t.outs) (SlR.ext h2 x7) rfl (by omega) (fun ad cs r10 he => ?_); obtain ⟨rfl, hv10⟩ := he; have hkl : k < t.outs.length := by omega)|(refine zE (fun _=>rfl) rfl rfl rfl (fun b11 w11 x11 a11 (r11 : Row w11 ⟨b11, 0, none⟩ (outCs t.outs[k])) hb11=>?_); have l11 := a11.lt)|(refine zI (d := some 122) (cs := outCs ⟨t.outs[k].v, S⟩) rfl (fun b w13 x13 a13 hb13 => ?_); have s713 := Ext.size (w := w7) (w' := w13) (by exact fx))|(refine st_append1 (d := some 123) (E := outR) (M := blkOf vi ++ M1) (v := vo) (cs := outCs ⟨t.outs[k].v, S⟩) (a := ⟨t.outs[k].v, S⟩) rfl rfl ((u2.ext x712).ext x13) (by omega) rfl rfl a13 ⟨rfl, hv10⟩ (by omega) (fun v14 w14 o14 c14 hb14 => ?_)))
    · exact ⟨t.outs[k].s.extract 0 50, ⟨rfl, rfl, rfl, rfl, rfl, rfl, trivial⟩, (x11.chg c12).mono (by intro y hy; simp at hy; right; omega), a12⟩
    · exact ⟨_, ⟨rfl, rfl, rfl, rfl, rfl, rfl, trivial⟩, x11, a11⟩
    · have g2 := u2.base
      have h3o : bp ∉ blkOf vo := fun h => by have := g2 _ h; omega
      have h4o : b4 ∉ blkOf vo := fun h => by have := g2 _ h; omega
      have h5o : b5 ∉ blkOf vo := fun h => by have := g2 _ h; omega
      have hvo : ∀ b ∈ blkOf vo, b ∉ blkOf vi := fun b h h' => by have := g2 _ h; have := hI1 _ h'; omega
      have u1' := (u1.ext (x712.trans x13)).step c14 (M' := blkOf v14 ++ M1) (fun b h => ⟨hvo b h, .inl (by simp [h])⟩) (fun b h => by
        rcases List.mem_append.1 h with h | h
        · rcases hb14 b h with h | h
          · exact .inl (by simp [h])
          · exact .inr h
        · exact .inl (by simp [h]))
      have t3' := At.chg c14 (t3.ext (x712.trans x13)) h3o
      have t4' := At.chg c14 (t4.ext (x712.trans x13)) h4o
      have t5' := At.chg c14 (t5.ext (x712.trans x13)) h5o
      have g14 := o14.base
      have s14 := c14.size
      have xwx : Unit → Chg (blkOf vo) w w14 := fun _ => Ext.chg (x7.trans (x712.trans x13)) c14
      refine st_store (d := none) (b := b5) (o := 2) (cur := [Value.int .u32 t.ver, vi, vo, .int .u32 t.lock]) rfl rfl o14.one t5' (Nat.le_of_ble_eq_true rfl) (fun w15 c15 a15 => ?_)
      have h5v : b5 ∉ blkOf vi := fun h => by have := hI0 _ h; omega
      have h5w : b5 ∉ blkOf v14 := fun h => by have := g14 _ h; omega
      have u15 := u1'.step c15 (M' := blkOf v14 ++ M1) (by intro y hy; simp at hy; subst hy; exact ⟨h5v, .inl (by simp [m5])⟩) (fun _ h => .inl h)
      have o15 := o14.step c15 (M' := blkOf vi ++ M1) (by intro y hy; simp at hy; subst hy; exact ⟨h5w, .inl (by simp [m5])⟩) (fun _ h => .inl h)
      have s15 := c15.size
      have x15 : Unit → Ext w w15 := fun _ => ((xwx ()).trans c15).mono (by
        intro y hy
        rcases List.mem_append.1 hy with h | h
        · have := g2 _ h; right; omega
        · simp at h; right; omega)
      have hk64 : k ≤ 1000 := by omega
      repeat (first|refine go1 ?_|refine zg (fun _ _=>?_)|refine zi (fun _ _=>?_))
      exact ⟨(k + 1, v14, O ++ [⟨t.outs[k].v, S⟩]), ⟨rfl, rfl, rfl, rfl, rfl, trivial⟩, ⟨x15 (), by omega, At.chg c15 t3' (by simp; omega), by simp; omega, by simp; omega, by simp; omega, At.chg c15 t4' (by simp; omega), a15, u15, o15⟩, by simp; omega⟩
    all_goals
      refine st_setN (w0 := w) (vs := [Value.int .u32 t.ver, vi, vo, .int .u32 t.lock]) x7 (by omega) t4 rfl rfl rfl rfl ?_ (fun w12 x12 c12 a12 r12 => ?_)
      · have e1 := u1.one
        have e2 := u2.one
        simp [e1, e2]; exact ⟨rfl, rfl⟩
      repeat (first|refine go1 ?_|refine zg (fun _ _=>?_)|refine zi (fun _ _=>?_))
      have g2 := u2.base
      have h4i : b4 ∉ blkOf vi := fun h => by have := hI0 _ h; omega
      have h4o : b4 ∉ blkOf vo := fun h => by have := g2 _ h; omega
      have p1 := (u1.step (M' := M1) c12 (by intro y hy; simp at hy; subst hy; exact ⟨h4i, .inl (by simp [m4])⟩) (fun _ h => .inl (by simp [h]))).sub (M' := M) (fun b hb => .inl (mM b hb))
      have p2 := (u2.step (M' := M1) c12 (by intro y hy; simp at hy; subst hy; exact ⟨h4o, .inl (by simp [m4])⟩) (fun _ h => .inl (by simp [h]))).sub (M' := M) (fun b hb => .inl (mM b hb))
      exact x_ret (ret1 (rv_cell r12 rfl rfl)) ⟨_, ⟨t.ver, L, O, t.lock⟩, rfl, ⟨vi, vo, rfl, p1.lower (by omega), p2.lower (by omega), h3⟩, ⟨by simp only; omega, by simp only; omega, hLm⟩, x12⟩
end Go.Proofs.YtbnhinpegbcbeaaGreat
end
