/- Contracts: a graph of any entries, as the laws of replacing make it. Contracts: just which transaction is made of small numbers, over no entries. -/
import Derived.Test.YtbnhinpegbcbeaaGreatG33
set_option linter.unusedVariables false
set_option linter.unusedSimpArgs false
section
namespace Go.Proofs.YtbnhinpegbcbeaaGreat
open Go Go.K
theorem addG_fee {l : List Ent} {t : Tx} {f c : Int} (h : ∀ x ∈ l, x.fee ≤ c) (hf : f ≤ c) : ∀ x ∈ (addG l t f).1, x.fee ≤ c := by
  intro x hx
  unfold addG at hx
  split at hx
  · exact h x hx
  split at hx
  · exact h x hx
  split at hx
  · exact h x hx
  split at hx
  · exact h x hx
  split at hx
  · exact h x hx
  · rcases List.mem_append.1 hx with h1 | h1
    · exact h x h1
    · simp only [List.mem_singleton] at h1; rw [h1]; exact hf
attribute [local irreducible] regK codeK retK KOp.wp K.Spec u32 leS vnS str zero32 sha2 encT idT sizeT checkT grantB idN stepR workL reachE findI dropG addG
set_option maxHeartbeats 4000000 in
theorem filled16_spec {v : Value} {sc : List ActP} (w : World) (hs : SlR actpR [] w v sc) :
    K.Spec Tryz.prog F.kedgelaw16_filled [v, .int .i64 12] w fun r w' => ∃ g M u l, r = .tuple #[.pointer (some ⟨g, 0, none⟩), u] ∧ Gr w' w.heap.size g M l ∧ SlR entR M w' u l ∧ l.length ≤ 12 ∧ (∀ x ∈ l, x.fee ≤ 16777215) ∧ Ext w w' := by
  refine s_kedgelaw16_filled rfl ?_
  unfold k_kedgelaw16_filled
  refine ox ?_
  repeat' (first|(refine st_takeR (d := some 17) (E := actpR) (n := min sc.length 12) rfl rfl (by omega) hs (by omega) rfl (fun v' hv => ?_))|(first|refine go1 ?_|refine zg (fun _ _=>?_)|refine zi (fun _ _=>?_))|(refine zC rfl (new_spec _) ?_; rintro _ w1 ⟨g, M1, rfl, G1, x1⟩)|(refine zG (E := actpR) (M := []) (l := sc) rfl (SlR.ext hs (by exact fx)) ?_)|(refine zG (d := some 18) (E := actpR) (M := []) (l := sc.take (min sc.length 12)) rfl (SlR.ext hv (by exact fx)) ?_)|(refine st_min (m := 12) rfl rfl ?_))
  have hSl : (sc.take (min sc.length 12)).length ≤ 12 := by rw [List.length_take]; omega
  generalize sc.take (min sc.length 12) = S at *
  have hv1 := SlR.ext hv x1
  repeat' (first|(first|refine go1 ?_|refine zg (fun _ _=>?_)|refine zi (fun _ _=>?_))|(refine zL rfl (fun h => ?_) (fun h => ?_))|(refine c_loopV (fun (p : Nat × List Ent × List Nat × Value) w' => Ext w w' ∧ p.1 ≤ S.length ∧ p.2.1.length ≤ p.1 ∧ (∀ x ∈ p.2.1, x.fee ≤ 16777215) ∧ Gr w' w.heap.size g p.2.2.1 p.2.1 ∧ SlR entR p.2.2.1 w' p.2.2.2 p.2.1) (fun p => [(6, .pointer (some ⟨g, 0, none⟩)), (7, p.2.2.2), (17, v'), (18, .int .i64 (S.length : Nat)), (19, .int .i64 p.1)]) (fun p => S.length - p.1) (0, [], M1, .slice none 0 0) ⟨rfl, rfl, rfl, rfl, rfl, trivial⟩ ⟨x1, by simp, by simp, by simp, G1, SlR.nil _ _⟩ ?_; rintro ⟨i, l, M, u⟩ ρ w3 ⟨x3, hi, hli, hfl, G3, u3⟩; simp only at hi hli hfl G3 u3; dsimp only; have hM3 := G3.lt; have hB3 := G3.base))
  · clear G1 x1 hv1
    have hil : i < S.length := by omega
    have hid32 : ∀ x ∈ l, x.id.size = 32 := fun x hx => by rw [(G3.ok x hx).id]; exact idT_size _
    have hv3 : SlR actpR M w3 v' S := hv.step x3 (by simp) (fun b hb => .inr (hB3 b hb))
    refine st_elemR (d := some 21) (E := actpR) (M := M) rfl rfl (n := i) (l := S) hv3 rfl hil (fun ad cs r4 he => ?_)
    obtain ⟨fv, rfl, q1, q2, q3⟩ := he
    generalize S[i] = z at *
    have s3 := x3.size
    repeat' (first|(first|refine go1 ?_|refine zg (fun _ _=>?_)|refine zi (fun _ _=>?_))|(refine zE (d' := 9) (fun _=>rfl) rfl rfl (by obtain ⟨_, _, rfl⟩ := q1.form; rfl) (fun b9 w9 x9 (a9 : At w9 b9 (.cells (actpCs z fv).toArray T.kedgelaw16_Act (0, 0))) (r9 : Row w9 ⟨b9, 0, none⟩ (actpCs z fv)) hb9=>?_)))
    have s9 := x9.size
    have l9 := a9.lt
    have hMo : ∀ b ∈ M, b < w9.heap.size := fun b hb => by have := hM3 b hb; omega
    have q9 : SlR u8R M w9 fv z.sm.frm := q1.ext x9
    have hf := andI_64 z.sm.fee (m := 16777215) (by decide) (by decide)
    have hfb := (andI_le z.sm.fee (m := 16777215) (by decide) (by decide)).2
    have u9 := u3.ext x9
    have G9 := G3.ext x9
    have n9 : b9 ∉ M := fun h => by have := hM3 _ h; omega
    clear r4 q1
    repeat' (first|(first|refine go1 ?_|refine zg (fun _ _=>?_)|refine zi (fun _ _=>?_))|(refine zC rfl (of16_spec (M := M) (l := l) (cs := actpCs z fv) (a := z) _ (u9.ext (by exact fx)) ⟨fv, rfl, q9.ext (by exact fx), q2, q3⟩ (by omega) hid32 hMo) ?_; rintro _ w5 ⟨ds, t, rfl, ho, hsm, x5⟩))
    have s5 := x5.size
    have t5 : txR.rel M w5 ds t := txO.rel ho hMo
    have o1 := ho.one
    obtain ⟨iv5, ov5, rfl, -⟩ := ho
    refine zE (d' := 10) (fun _=>rfl) rfl rfl o1 (fun b6 w6 x6 (a6 : At w6 b6 (.cells (txCs t iv5 ov5).toArray T.api_Tx (0, 0))) r6 hb6=>?_)
    have s6 := x6.size
    have l6 := a6.lt
    have x96 := x5.trans x6
    have a96 := a9.ext x96
    have r96 : Row w6 ⟨b9, 0, none⟩ (actpCs z fv) := Row.of_at a96
    have t6 : txR.rel M w6 (txCs t iv5 ov5) t := R.ext t5 x6
    have G6 := G9.ext x96
    have u6 := u9.ext x96
    have x06 := (x3.trans x9).trans x96
    have hM6 : ∀ b ∈ M, b < w6.heap.size := fun b hb => by have := hM3 b hb; omega
    have n6 : b6 ∉ M := fun h => by have := hM3 _ h; omega
    clear x3 x5 x6 x9 x96 G3 G9 u3 u9 a9 r9 t5 q9
    repeat' (first|(refine st_bin (d := some 31) (v := .int .i64 (andI z.sm.fee 16777215)) rfl rfl rfl ?_)|(first|refine go1 ?_|refine zg (fun _ _=>?_)|refine zi (fun _ _=>?_))|(refine zC rfl (gadd_spec (M := M) (N := M) (cs := txCs t iv5 ov5) (t := t) (andI z.sm.fee 16777215) _ G6 t6 hsm hf hM6 (fun _ h => h) (by omega)) ?_; rintro _ w7 ⟨M7, rfl, G7, c7, hb7⟩))
    have t7 : txR.rel M7 w7 (txCs t iv5 ov5) t := txR.step t6 c7 (fun b hb => .inl hb) hb7
    have u7 : SlR entR M7 w7 u l := u6.step c7 (fun b hb => .inl hb) hb7
    have a97 := a96.chg c7 n9
    have a67 := a6.chg c7 n6
    have r97 : Row w7 ⟨b9, 0, none⟩ (actpCs z fv) := Row.of_at a97
    have r67 : Row w7 ⟨b6, 0, none⟩ (txCs t iv5 ov5) := Row.of_at a67
    have x07 : Ext w w7 := (x06.chg c7).mono (fun b hb => .inr (hB3 b hb))
    have hok := G6.ok
    have hM7 := G7.lt
    clear t6 u6 a96 r96 c7 x06 G6 r6 a6
    repeat' (first|(refine st_bin (d := some 39) (v := .int .i64 (andI z.sm.fee 16777215)) rfl rfl rfl ?_)|(first|refine go1 ?_|refine zg (fun _ _=>?_)|refine zi (fun _ _=>?_))|(refine zC rfl (radd_spec (M := M7) (l := l) (cs := txCs t iv5 ov5) (t := t) (andI z.sm.fee 16777215) _ u7 t7 hsm hf (by omega) hok hM7) ?_; rintro _ w8 ⟨u8, rfl, hu8, x8⟩))
    have hla := @addG_le l t (andI z.sm.fee 16777215)
    exact ⟨(i + 1, (addG l t (andI z.sm.fee 16777215)).1, M7, u8), ⟨rfl, rfl, rfl, rfl, rfl, trivial⟩, ⟨x07.trans x8, by simp; omega, by simp only; omega, addG_fee hfl hfb, G7.ext x8, hu8⟩, by simp; omega⟩
  · exact x_ret rfl ⟨g, M, u, l, rfl, G3, u3, by omega, hfl, x3⟩
end Go.Proofs.YtbnhinpegbcbeaaGreat
end
section
namespace Go.Proofs.YtbnhinpegbcbeaaGreat
open Go Go.K
attribute [local irreducible] regK codeK retK KOp.wp K.Spec u32 leS vnS str zero32 sha2 encT idT sizeT checkT grantB idN
attribute [local irreducible] pI
noncomputable def insN (z : Small) (n : Nat) : List TIn := (List.range n).map fun j => ⟨⟨idN ((z.frm.getD j 0).toNat % 16), pI z j⟩, 4294967293, []⟩
def s9 : ByteArray := ⟨#[1, 1, 0, 0, 0, 0, 0, 0, 0]⟩
def s40 : ByteArray := ⟨#[48, 49, 50, 51, 52, 53, 54, 55, 56, 57, 48, 49, 50, 51, 52, 53, 54, 55, 56, 57, 48, 49, 50, 51, 52, 53, 54, 55, 56, 57, 48, 49, 50, 51, 52, 53, 54, 55, 56, 57]⟩
def outsN (n : Nat) : List TOut := (List.range n).map fun k : Nat => ⟨1000 + (k : Int), s9⟩
noncomputable def makeN (z : Small) : Tx := ⟨2, insN z (min z.frm.length 4), outsN (z.outs.toNat % 3 + 1) ++ List.replicate z.long.toNat ⟨1000, s40⟩, (z.mark.toNat : Nat)⟩
theorem insN_succ {z : Small} {i : Nat} (h : i < z.frm.length) : insN z (i + 1) = insN z i ++ [⟨⟨idN (z.frm[i].toNat % 16), pI z i⟩, 4294967293, []⟩] := by
  unfold insN
  rw [List.range_succ, List.map_append, List.map_singleton]
  have e : z.frm.getD i 0 = z.frm[i] := by simp [List.getD, h]
  rw [e]
theorem outsN_succ {k : Nat} : outsN (k + 1) = outsN k ++ [⟨1000 + (k : Int), s9⟩] := by
  unfold outsN
  rw [List.range_succ, List.map_append, List.map_singleton]
theorem pI_zero {z : Small} (h : z.idx = 0) : pI z 0 = 0 := by
  have e := pI_spec z 0
  rw [h] at e
  have e2 : binVal .rem (.int .u32 (IntKind.u32.wrap ((IntKind.i64.wrap ((0 : UInt8).toNat : Nat)).fdiv (2 ^ (min (2 * ((0 : Nat) : Int)).toNat IntKind.i64.bits))))) (.int .u32 4) = some (.int .u32 0) := by rfl
  rw [e2] at e
  simpa using e.symm
set_option maxHeartbeats 4000000 in
theorem make_exact {M : List Nat} {v : Value} {cs : List Value} {l : List Ent} {z : Small} (w : World) (hl : SlR entR M w v l) (hz : smallR.rel M w cs z) (hn : l.length ≤ 100000) (hm : z.frm.length ≤ 9223372036854775807) (hid : ∀ x ∈ l, x.id.size = 32) (hM : ∀ b ∈ M, b < w.heap.size) :
    K.Spec Tryz.prog F.kedgeref14_Make [v, .agg cs.toArray] w fun r w' => ∃ cs' t, r = .agg cs'.toArray ∧ txO w.heap.size M w' cs' t ∧ Made z t ∧ (l = [] → t = makeN z) ∧ Ext w w' := by
  obtain ⟨fv, rfl, hfr, hfe⟩ := hz
  refine s_kedgeref14_Make rfl ?_
  unfold k_kedgeref14_Make
  refine ox ?_
  repeat (first|refine go ?_|refine zg (fun _ _=>?_)|refine zi (fun _ _=>?_))
  refine zD rfl rfl (fun bp wp xp ap rp hp0 => ?_)
  repeat (first|refine go ?_|refine zg (fun _ _=>?_)|refine zi (fun _ _=>?_))
  refine zH (fun b4 w4 x4 a4 hb4 => ?_)
  repeat (first|refine go ?_|refine zg (fun _ _=>?_)|refine zi (fun _ _=>?_))
  refine zE (fun _=>rfl) rfl rfl rfl (fun b5 w5 x5 a5 r5 hb5=>?_)
  have lp := ap.lt
  have l4 := a4.lt
  have l5 := a5.lt
  have sp := xp.size
  have s4 := x4.size
  have s5 := x5.size
  obtain ⟨M1, hM1⟩ : ∃ M1, M1 = [b4, b5] ++ M := ⟨_, rfl⟩
  have hM1b : ∀ b ∈ M1, b < w5.heap.size := by
    intro y hy; rw [hM1] at hy; simp at hy
    rcases hy with h | h | h
    · omega
    · omega
    · have := hM y h; omega
  have m4 : b4 ∈ M1 := by rw [hM1]; simp
  have m5 : b5 ∈ M1 := by rw [hM1]; simp
  have mM : ∀ b ∈ M, b ∈ M1 := by intro y hy; rw [hM1]; simp [hy]
  have a4' : At w5 b4 (.cells [Value.int .u32 0, .slice none 0 0, .slice none 0 0, .int .u32 0].toArray T.api_Tx (0, 0)) := At.ext x5 a4
  have a5' : At w5 b5 (.cells [Value.int .u32 2, .slice none 0 0, .slice none 0 0, .int .u32 (IntKind.u32.wrap (z.mark.toNat : Nat))].toArray T.api_Tx (0, 0)) := a5
  rw [wrap_m] at a5'
  have ap' : At w5 bp (.cells (smallCs z fv).toArray T.kedgeref14_Small (0, 0)) := At.ext x5 (At.ext x4 ap)
  have xw : Unit → Ext w w5 := fun _ => (xp.trans x4).trans x5
  repeat' (first|(first|refine go1 ?_|refine zg (fun _ _=>?_)|refine zi (fun _ _=>?_))|refine zJ rfl (fun h => ?_) (fun h => ?_)|refine zL rfl (fun h => ?_) (fun h => ?_)|refine zB ?_ ?_|(refine zG (E := u8R) (M := M) rfl (SlR.ext (w := w) hfr (by exact fx)) ?_)|(refine zG (E := entR) (M := M) rfl (SlR.ext (w := w) hl (by exact fx)) ?_)|(refine c_loopV (fun (p : Nat × Value × List TIn) w' => Ext w w' ∧ w5.heap.size ≤ w'.heap.size ∧ At w' bp (.cells (smallCs z fv).toArray T.kedgeref14_Small (0, 0)) ∧ p.1 ≤ z.frm.length ∧ p.1 ≤ 4 ∧ p.2.2.length = p.1 ∧ ((∀ x ∈ p.2.2, InMade x) ∧ (l = [] → p.2.2 = insN z p.1)) ∧ At w' b4 (.cells [Value.int .u32 0, .slice none 0 0, .slice none 0 0, .int .u32 0].toArray T.api_Tx (0, 0)) ∧ At w' b5 (.cells [Value.int .u32 2, p.2.1, .slice none 0 0, .int .u32 (z.mark.toNat : Nat)].toArray T.api_Tx (0, 0)) ∧ OwnR inR T.api_In w5.heap.size M1 w' p.2.1 p.2.2) (fun p => [(0, v), (3, .pointer (some ⟨bp, 0, none⟩)), (4, .pointer (some ⟨b4, 0, none⟩)), (5, .pointer (some ⟨b5, 0, none⟩)), (6, .int .i64 p.1)]) (fun p => 4 - p.1) (0, .slice none 0 0, []) ⟨rfl, rfl, rfl, rfl, rfl, trivial⟩ ⟨xw (), Nat.le_refl _, ap', by simp, by simp, rfl, ⟨by simp, fun _ => rfl⟩, a4', a5', OwnR.nil _ _ _ _⟩ ?_; rintro ⟨i, vi, L⟩ ρ w6 ⟨x6, s56, q3, hi1, hi2, hL, ⟨hLm, hLx⟩, q4, q5, o1⟩; simp only at hi1 hi2 hL hLm hLx q5 o1; dsimp only; have q3r := Row.of_at q3))
  · have hif : i < z.frm.length := by omega
    have q5r : Row w6 ⟨b5, 0, none⟩ [Value.int .u32 2, vi, .slice none 0 0, .int .u32 (z.mark.toNat : Nat)] := Row.of_at q5
    have x56 : Unit → Ext w w6 := fun _ => x6
    clear x6
    refine st_elemR (d := some 29) (E := u8R) (M := M) rfl rfl (n := i) (l := z.frm) (hfr.ext (x56 ())) rfl hif (fun ad cs r7 he => ?_)
    subst he
    have hpi := pI_lt z i
    repeat' (first|(have _ := hs9; refine st_build (d := some 61) (cs := [.string (l[n9].id), .int .u32 (pI z i)]) rfl ?_)|(have _ := hs9; refine st_build (d := some 62) (cs := inCs ⟨⟨l[n9].id, pI z i⟩, 4294967293, []⟩ (.slice none 0 0)) rfl ?_)|(have _ := hs8; refine st_build (d := some 61) (cs := [.string (idN (z.frm[i].toNat % 16)), .int .u32 (pI z i)]) rfl ?_)|(have _ := hs8; refine st_build (d := some 62) (cs := inCs ⟨⟨idN (z.frm[i].toNat % 16), pI z i⟩, 4294967293, []⟩ (.slice none 0 0)) rfl ?_)|(refine st_fixV (.int .i64 (z.frm[i].toNat : Nat)) rfl (congrArg (fun n => some (Value.int .i64 n)) (wrap_u8 z.frm[i])) ?_)|(refine st_rem (n := z.frm[i].toNat) (m := 16) rfl rfl (by decide) ?_)|(refine st_rem (n := z.frm[i].toNat) (m := l.length) rfl rfl (by omega) ?_)|(refine st_mul rfl rfl (by omega) ?_)|(refine st_shr rfl rfl (by omega) ?_)|(refine st_bin rfl rfl (pI_spec z i) ?_)|(first|refine go1 ?_|refine zg (fun _ _=>?_)|refine zi (fun _ _=>?_))|refine zJ rfl (fun h => ?_) (fun h => ?_)|refine zL rfl (fun h => ?_) (fun h => ?_)|refine zB ?_ ?_|(refine zC rfl (idn_spec (z.frm[i].toNat % 16) _) ?_; rintro _ w8 ⟨rfl, x8⟩; have hs8 := idN_size (z.frm[i].toNat % 16))|(refine st_lenR (E := entR) (M := M) (l := l) rfl (SlR.ext hl ((x56 ()).trans x8)) ?_)|(have h9 := Nat.mod_lt z.frm[i].toNat (show 0 < l.length by omega); generalize z.frm[i].toNat % l.length = n9 at h9 ⊢; refine st_elemR (d := some 47) (E := entR) (M := M) rfl rfl (n := n9) (l := l) (SlR.ext hl ((x56 ()).trans x8)) rfl h9 (fun ad cs r9 he => ?_); obtain ⟨iv9, ov9, rfl, g1, g2, g3⟩ := he; have hs9 := hid _ (List.getElem_mem h9))|(have hS := hs9; refine zI (cs := inCs ⟨⟨l[n9].id, pI z i⟩, 4294967293, []⟩ (.slice none 0 0)) rfl (fun b w9 x9 a9 hb => ?_); obtain ⟨S, hSe⟩ : ∃ S, S = l[n9].id := ⟨_, rfl⟩; rw [← hSe] at a9 hS)|(have hS := hs8; refine zI (cs := inCs ⟨⟨idN (z.frm[i].toNat % 16), pI z i⟩, 4294967293, []⟩ (.slice none 0 0)) rfl (fun b w9 x9 a9 hb => ?_); obtain ⟨S, hSe⟩ : ∃ S, S = idN (z.frm[i].toNat % 16) := ⟨_, rfl⟩; rw [← hSe] at a9 hS)|(refine st_append1 (d := some 64) (E := inR) (M := M1) (v := vi) (cs := inCs ⟨⟨S, pI z i⟩, 4294967293, []⟩ (.slice none 0 0)) (a := ⟨⟨S, pI z i⟩, 4294967293, []⟩) rfl rfl (o1.ext (by exact fx)) (Nat.le_trans s56 (Ext.size (w := w6) (by exact fx))) rfl rfl a9 ⟨_, rfl, SlR.nil _ _, by show is32 (pI z i); unfold is32; omega, by show is32 4294967293; unfold is32; omega⟩ (by omega) (fun v10 w10 o10 c10 hb10 => ?_)))
    all_goals
      have g1 := o1.base
      have l1 := o1.lt
      have s69 := Ext.size (w := w6) (w' := w9) (by exact fx)
      have h4v : b4 ∉ blkOf vi := fun h => by have := g1 _ h; omega
      have h5v : b5 ∉ blkOf vi := fun h => by have := g1 _ h; omega
      have x69 : Unit → Ext w6 w9 := fun _ => by exact fx
      have hpv : bp ∉ blkOf vi := fun h => by have := g1 _ h; omega
      have q3' := At.chg c10 (q3.ext (x69 ())) hpv
      have q4' := At.chg c10 (q4.ext (x69 ())) h4v
      have q5' := At.chg c10 (q5.ext (x69 ())) h5v
      have l10 := o10.lt
      have g10 := o10.base
      repeat (first|refine go1 ?_|refine zg (fun _ _=>?_)|refine zi (fun _ _=>?_))
      refine st_store (b := b5) (o := 1) (cur := [Value.int .u32 2, vi, .slice none 0 0, .int .u32 (z.mark.toNat : Nat)]) rfl rfl o10.one q5' (Nat.le_of_ble_eq_true rfl) (fun w11 c11 a11 => ?_)
      repeat (first|refine go1 ?_|refine zg (fun _ _=>?_)|refine zi (fun _ _=>?_))
      have h5w : b5 ∉ blkOf v10 := fun h => by have := g10 _ h; omega
      have o11 := o10.step c11 (M' := M1) (by intro y hy; simp at hy; subst hy; exact ⟨h5w, .inl m5⟩) (fun _ h => .inl h)
      refine ⟨(i + 1, v10, L ++ [⟨⟨S, pI z i⟩, 4294967293, []⟩]), ⟨rfl, rfl, rfl, rfl, rfl, trivial⟩, ⟨?_, by have := c10.size; have := c11.size; omega, At.chg c11 q3' (by simp; omega), by simp; omega, by simp; omega, by simp; omega, ⟨?_, fun hl0 => ?_⟩, At.chg c11 q4' (by simp; omega), a11, o11⟩, by simp; omega⟩
      · exact (Ext.chg ((x56 ()).trans (x69 ())) (c10.trans c11)).mono (by
          intro y hy
          rcases List.mem_append.1 hy with h | h
          · have := g1 _ h; right; omega
          · simp at h; right; omega)
      · intro x hx
        rcases List.mem_append.1 hx with h | h
        · exact hLm x h
        · simp at h; subst h; exact ⟨hpi.1, hpi.2, rfl, rfl, hS⟩
      · first
          | (have e := hLx hl0
             show L ++ _ = insN z (i + 1)
             rw [insN_succ hif, hSe, ← e]
             done)
          | exact absurd (show n9 < l.length by omega) (by rw [hl0]; simp)
          | exact absurd h9 (by rw [hl0]; simp)
  all_goals
    have hLn : L.length = min z.frm.length 4 := by omega
    have hz8 := z.long.toNat_lt
    have hI0 := o1.base
    have hI1 := o1.lt
    have oI := o1
    clear xw
    repeat' (first|(refine st_build (d := some 78) (cs := outCs ⟨1000 + (k : Int), ⟨#[1, 1, 0, 0, 0, 0, 0, 0, 0]⟩⟩) rfl ?_)|(refine st_build (d := some 91) (cs := outCs ⟨1000, ⟨#[48, 49, 50, 51, 52, 53, 54, 55, 56, 57, 48, 49, 50, 51, 52, 53, 54, 55, 56, 57, 48, 49, 50, 51, 52, 53, 54, 55, 56, 57, 48, 49, 50, 51, 52, 53, 54, 55, 56, 57]⟩⟩) rfl ?_)|(refine st_bin rfl rfl (rem_u8 z.outs.toNat 3 (by decide)) ?_)|(refine st_fixV (.int .i64 ((z.outs.toNat % 3 : Nat) : Int)) rfl (congrArg (fun n => some (Value.int .i64 n)) (wrap_n8 (by omega))) ?_)|(refine st_fixV (.int .i64 (z.long.toNat : Nat)) rfl (congrArg (fun n => some (Value.int .i64 n)) (wrap_u8 z.long)) ?_)|(first|refine go1 ?_|refine zg (fun _ _=>?_)|refine zi (fun _ _=>?_))|refine zL rfl (fun h => ?_) (fun h => ?_)|(refine c_loopV (fun (p : Nat × Value × List TOut) w' => Ext w w' ∧ w6.heap.size ≤ w'.heap.size ∧ At w' bp (.cells (smallCs z fv).toArray T.kedgeref14_Small (0, 0)) ∧ p.1 ≤ z.outs.toNat % 3 + 1 ∧ p.2.2.length = p.1 ∧ ((∀ y ∈ p.2.2, OutMade y) ∧ p.2.2 = outsN p.1) ∧ At w' b4 (.cells [Value.int .u32 0, .slice none 0 0, .slice none 0 0, .int .u32 0].toArray T.api_Tx (0, 0)) ∧ At w' b5 (.cells [Value.int .u32 2, vi, p.2.1, .int .u32 (z.mark.toNat : Nat)].toArray T.api_Tx (0, 0)) ∧ OwnR inR T.api_In w5.heap.size (blkOf p.2.1 ++ M1) w' vi L ∧ OwnR outR T.api_Out w6.heap.size (blkOf vi ++ M1) w' p.2.1 p.2.2) (fun p => [(3, .pointer (some ⟨bp, 0, none⟩)), (4, .pointer (some ⟨b4, 0, none⟩)), (5, .pointer (some ⟨b5, 0, none⟩)), (9, .int .i64 p.1)]) (fun p => z.outs.toNat % 3 + 1 - p.1) (0, .slice none 0 0, []) ⟨rfl, rfl, rfl, rfl, trivial⟩ ⟨x6, Nat.le_refl _, q3, by simp, rfl, ⟨by simp, rfl⟩, q4, q5, o1, OwnR.nil _ _ _ _⟩ ?_; rintro ⟨k, vo, O⟩ ρ7 w7 ⟨x7, s67, t3, hk1, hO, ⟨hOm, hOx⟩, t4, t5, u1, u2⟩; simp only at hk1 hO hOm hOx t5 u1 u2; dsimp only; have t3r := Row.of_at t3; have t5r : Row w7 ⟨b5, 0, none⟩ [Value.int .u32 2, vi, vo, .int .u32 (z.mark.toNat : Nat)] := Row.of_at t5)|(refine c_loopV (fun (p : Nat × Value × List TOut) w' => Ext w w' ∧ w6.heap.size ≤ w'.heap.size ∧ At w' bp (.cells (smallCs z fv).toArray T.kedgeref14_Small (0, 0)) ∧ p.1 ≤ z.long.toNat ∧ p.2.2.length = z.outs.toNat % 3 + 1 + p.1 ∧ ((∀ y ∈ p.2.2, OutMade y) ∧ p.2.2 = outsN (z.outs.toNat % 3 + 1) ++ List.replicate p.1 ⟨1000, s40⟩) ∧ At w' b4 (.cells [Value.int .u32 0, .slice none 0 0, .slice none 0 0, .int .u32 0].toArray T.api_Tx (0, 0)) ∧ At w' b5 (.cells [Value.int .u32 2, vi, p.2.1, .int .u32 (z.mark.toNat : Nat)].toArray T.api_Tx (0, 0)) ∧ OwnR inR T.api_In w5.heap.size (blkOf p.2.1 ++ M1) w' vi L ∧ OwnR outR T.api_Out w6.heap.size (blkOf vi ++ M1) w' p.2.1 p.2.2) (fun p => [(3, .pointer (some ⟨bp, 0, none⟩)), (4, .pointer (some ⟨b4, 0, none⟩)), (5, .pointer (some ⟨b5, 0, none⟩)), (10, .int .i64 p.1)]) (fun p => z.long.toNat - p.1) (0, vo, O) ⟨rfl, rfl, rfl, rfl, trivial⟩ ⟨x7, s67, t3, by simp, by simp only; omega, ⟨hOm, by have e : k = z.outs.toNat % 3 + 1 := (by omega); simp only; rw [hOx, e]; simp⟩, t4, t5, u1, u2⟩ ?_; clear hk1 hO hOm hOx t3 t3r t4 t5 t5r u1 u2 s67 x7; clear ρ7 h; rintro ⟨j, vo, O⟩ ρ7 w7 ⟨x7, s67, t3, hj1, hO, ⟨hOm, hOx⟩, t4, t5, u1, u2⟩; simp only at hj1 hO hOm hOx t5 u1 u2; dsimp only; have t3r := Row.of_at t3; have t5r : Row w7 ⟨b5, 0, none⟩ [Value.int .u32 2, vi, vo, .int .u32 (z.mark.toNat : Nat)] := Row.of_at t5))
    · have g2 := u2.base
      have l2 := u2.lt
      refine zI (d := some 79) (cs := outCs ⟨1000 + (k : Int), ⟨#[1, 1, 0, 0, 0, 0, 0, 0, 0]⟩⟩) rfl (fun b w9 x9 a9 hb => ?_)
      have s9 := x9.size
      refine st_append1 (d := some 80) (E := outR) (M := blkOf vi ++ M1) (v := vo) (cs := outCs ⟨1000 + (k : Int), ⟨#[1, 1, 0, 0, 0, 0, 0, 0, 0]⟩⟩) (a := ⟨1000 + (k : Int), ⟨#[1, 1, 0, 0, 0, 0, 0, 0, 0]⟩⟩) rfl rfl (u2.ext x9) (Nat.le_trans s67 s9) rfl rfl a9 ⟨rfl, by show is64 (1000 + (k : Int)); unfold is64; omega⟩ (by omega) (fun v10 w10 o10 c10 hb10 => ?_)
      have h3o : bp ∉ blkOf vo := fun h => by have := g2 _ h; omega
      have h4o : b4 ∉ blkOf vo := fun h => by have := g2 _ h; omega
      have h5o : b5 ∉ blkOf vo := fun h => by have := g2 _ h; omega
      have hvo : ∀ b ∈ blkOf vo, b ∉ blkOf vi := fun b h h' => by have := g2 _ h; have := hI1 _ h'; omega
      have u1' := (u1.ext x9).step c10 (M' := blkOf v10 ++ M1) (fun b h => ⟨hvo b h, .inl (by simp [h])⟩) (fun b h => by
        rcases List.mem_append.1 h with h | h
        · rcases hb10 b h with h | h
          · exact .inl (by simp [h])
          · exact .inr h
        · exact .inl (by simp [h]))
      have t3' := At.chg c10 (t3.ext x9) h3o
      have t4' := At.chg c10 (t4.ext x9) h4o
      have t5' := At.chg c10 (t5.ext x9) h5o
      have g10 := o10.base
      have s10 := c10.size
      have xwx : Unit → Chg (blkOf vo) w w10 := fun _ => Ext.chg (x7.trans x9) c10
      clear x9
      repeat (first|refine go1 ?_|refine zg (fun _ _=>?_)|refine zi (fun _ _=>?_))
      refine st_store (b := b5) (o := 2) (cur := [Value.int .u32 2, vi, vo, .int .u32 (z.mark.toNat : Nat)]) rfl rfl o10.one t5' (Nat.le_of_ble_eq_true rfl) (fun w11 c11 a11 => ?_)
      have h5v : b5 ∉ blkOf vi := fun h => by have := hI0 _ h; omega
      have h5w : b5 ∉ blkOf v10 := fun h => by have := g10 _ h; omega
      have u11 := u1'.step c11 (M' := blkOf v10 ++ M1) (by intro y hy; simp at hy; subst hy; exact ⟨h5v, .inl (by simp [m5])⟩) (fun _ h => .inl h)
      have o11 := o10.step c11 (M' := blkOf vi ++ M1) (by intro y hy; simp at hy; subst hy; exact ⟨h5w, .inl (by simp [m5])⟩) (fun _ h => .inl h)
      have s11 := c11.size
      have x11 : Unit → Ext w w11 := fun _ => ((xwx ()).trans c11).mono (by
        intro y hy
        rcases List.mem_append.1 hy with h | h
        · have := g2 _ h; right; omega
        · simp at h; right; omega)
      repeat (first|refine go1 ?_|refine zg (fun _ _=>?_)|refine zi (fun _ _=>?_))
      refine ⟨(k + 1, v10, O ++ [⟨1000 + (k : Int), ⟨#[1, 1, 0, 0, 0, 0, 0, 0, 0]⟩⟩]), ⟨rfl, rfl, rfl, rfl, trivial⟩, ⟨x11 (), by omega, At.chg c11 t3' (by simp; omega), by simp; omega, by simp; omega, ⟨?_, ?_⟩, At.chg c11 t4' (by simp; omega), a11, u11, o11⟩, by simp; omega⟩
      · intro y hy
        rcases List.mem_append.1 hy with h | h
        · exact hOm y h
        · simp at h; subst h; exact ⟨by show (0 : Int) ≤ 1000 + (k : Int); omega, by show 1000 + (k : Int) ≤ 2000; omega, by show 9 ≤ 40; decide⟩
      · show O ++ _ = outsN (k + 1)
        rw [outsN_succ, ← hOx]; rfl
    · have g2 := u2.base
      have l2 := u2.lt
      refine zI (d := some 92) (cs := outCs ⟨1000, ⟨#[48, 49, 50, 51, 52, 53, 54, 55, 56, 57, 48, 49, 50, 51, 52, 53, 54, 55, 56, 57, 48, 49, 50, 51, 52, 53, 54, 55, 56, 57, 48, 49, 50, 51, 52, 53, 54, 55, 56, 57]⟩⟩) rfl (fun b w9 x9 a9 hb => ?_)
      have s9 := x9.size
      refine st_append1 (d := some 93) (E := outR) (M := blkOf vi ++ M1) (v := vo) (cs := outCs ⟨1000, ⟨#[48, 49, 50, 51, 52, 53, 54, 55, 56, 57, 48, 49, 50, 51, 52, 53, 54, 55, 56, 57, 48, 49, 50, 51, 52, 53, 54, 55, 56, 57, 48, 49, 50, 51, 52, 53, 54, 55, 56, 57]⟩⟩) (a := ⟨1000, ⟨#[48, 49, 50, 51, 52, 53, 54, 55, 56, 57, 48, 49, 50, 51, 52, 53, 54, 55, 56, 57, 48, 49, 50, 51, 52, 53, 54, 55, 56, 57, 48, 49, 50, 51, 52, 53, 54, 55, 56, 57]⟩⟩) rfl rfl (u2.ext x9) (Nat.le_trans s67 s9) rfl rfl a9 ⟨rfl, by show is64 (1000); unfold is64; omega⟩ (by omega) (fun v10 w10 o10 c10 hb10 => ?_)
      have h3o : bp ∉ blkOf vo := fun h => by have := g2 _ h; omega
      have h4o : b4 ∉ blkOf vo := fun h => by have := g2 _ h; omega
      have h5o : b5 ∉ blkOf vo := fun h => by have := g2 _ h; omega
      have hvo : ∀ b ∈ blkOf vo, b ∉ blkOf vi := fun b h h' => by have := g2 _ h; have := hI1 _ h'; omega
      have u1' := (u1.ext x9).step c10 (M' := blkOf v10 ++ M1) (fun b h => ⟨hvo b h, .inl (by simp [h])⟩) (fun b h => by
        rcases List.mem_append.1 h with h | h
        · rcases hb10 b h with h | h
          · exact .inl (by simp [h])
          · exact .inr h
        · exact .inl (by simp [h]))
      have t3' := At.chg c10 (t3.ext x9) h3o
      have t4' := At.chg c10 (t4.ext x9) h4o
      have t5' := At.chg c10 (t5.ext x9) h5o
      have g10 := o10.base
      have s10 := c10.size
      have xwx : Unit → Chg (blkOf vo) w w10 := fun _ => Ext.chg (x7.trans x9) c10
      clear x9
      repeat (first|refine go1 ?_|refine zg (fun _ _=>?_)|refine zi (fun _ _=>?_))
      refine st_store (b := b5) (o := 2) (cur := [Value.int .u32 2, vi, vo, .int .u32 (z.mark.toNat : Nat)]) rfl rfl o10.one t5' (Nat.le_of_ble_eq_true rfl) (fun w11 c11 a11 => ?_)
      have h5v : b5 ∉ blkOf vi := fun h => by have := hI0 _ h; omega
      have h5w : b5 ∉ blkOf v10 := fun h => by have := g10 _ h; omega
      have u11 := u1'.step c11 (M' := blkOf v10 ++ M1) (by intro y hy; simp at hy; subst hy; exact ⟨h5v, .inl (by simp [m5])⟩) (fun _ h => .inl h)
      have o11 := o10.step c11 (M' := blkOf vi ++ M1) (by intro y hy; simp at hy; subst hy; exact ⟨h5w, .inl (by simp [m5])⟩) (fun _ h => .inl h)
      have s11 := c11.size
      have x11 : Unit → Ext w w11 := fun _ => ((xwx ()).trans c11).mono (by
        intro y hy
        rcases List.mem_append.1 hy with h | h
        · have := g2 _ h; right; omega
        · simp at h; right; omega)
      repeat (first|refine go1 ?_|refine zg (fun _ _=>?_)|refine zi (fun _ _=>?_))
      refine ⟨(j + 1, v10, O ++ [⟨1000, ⟨#[48, 49, 50, 51, 52, 53, 54, 55, 56, 57, 48, 49, 50, 51, 52, 53, 54, 55, 56, 57, 48, 49, 50, 51, 52, 53, 54, 55, 56, 57, 48, 49, 50, 51, 52, 53, 54, 55, 56, 57]⟩⟩]), ⟨rfl, rfl, rfl, rfl, trivial⟩, ⟨x11 (), by omega, At.chg c11 t3' (by simp; omega), by simp; omega, by simp; omega, ⟨?_, ?_⟩, At.chg c11 t4' (by simp; omega), a11, u11, o11⟩, by simp; omega⟩
      · intro y hy
        rcases List.mem_append.1 hy with h | h
        · exact hOm y h
        · simp at h; subst h; exact ⟨by show (0 : Int) ≤ 1000; decide, by show (1000 : Int) ≤ 2000; decide, by show 40 ≤ 40; decide⟩
      · show O ++ _ = _ ++ List.replicate (j + 1) _
        rw [List.replicate_succ', ← List.append_assoc, ← hOx]; rfl
    · have hj : j = z.long.toNat := by omega
      subst hj
      refine st_setN (w0 := w) (vs := [Value.int .u32 2, vi, vo, .int .u32 (z.mark.toNat : Nat)]) x7 (by omega) t4 rfl rfl rfl rfl ?_ (fun w12 x12 c12 a12 r12 => ?_)
      · have e1 := u1.one
        have e2 := u2.one
        simp [e1, e2]; exact ⟨rfl, rfl⟩
      repeat (first|refine go1 ?_|refine zg (fun _ _=>?_)|refine zi (fun _ _=>?_))
      have g2 := u2.base
      have h4i : b4 ∉ blkOf vi := fun h => by have := hI0 _ h; omega
      have h4o : b4 ∉ blkOf vo := fun h => by have := g2 _ h; omega
      have p1 := (u1.step (M' := M1) c12 (by intro y hy; simp at hy; subst hy; exact ⟨h4i, .inl (by simp [m4])⟩) (fun _ h => .inl (by simp [h]))).sub (M' := M) (fun b hb => .inl (mM b hb))
      have p2 := (u2.step (M' := M1) c12 (by intro y hy; simp at hy; subst hy; exact ⟨h4o, .inl (by simp [m4])⟩) (fun _ h => .inl (by simp [h]))).sub (M' := M) (fun b hb => .inl (mM b hb))
      exact x_ret (ret1 (rv_cell r12 rfl rfl)) ⟨_, ⟨2, L, O, (z.mark.toNat : Nat)⟩, rfl, ⟨vi, vo, rfl, p1.lower (by omega), p2.lower (by omega), by show is32 2; unfold is32; omega, is32_u8 z.mark⟩, ⟨rfl, rfl, hLn, hLm, by simp only; omega, hOm⟩, fun hl0 => by have e : i = min z.frm.length 4 := (by omega); rw [hLx hl0, hOx, e]; rfl, x12⟩
end Go.Proofs.YtbnhinpegbcbeaaGreat
end
