/- Plain: a transaction, and one that spends what it pays first. Plain: one or two transactions that come. What comes in for the laws of pools. What comes in for the laws of pairs. Contracts: accepting a transaction, the walk. Contracts: errors.Is of equal numbers (walked with the kit's own steps). -/
import Derived.Test.YtilhlcnekkkajaaGreatRows
import Derived.Test.YtilhlcnekkkajaaGreatChecked
import Derived.ProofKit
import Derived.ShutString
import Derived.ChangeOld
import Derived.Below
import Derived.WalkKit
import Derived.LaidEql
import Derived.Lib.IfaceEq
import Derived.Stop.Asserts
import Derived.RowKitTokens
import Derived.Test.YtilhlcnekkkajaaGreatPa36
set_option linter.unusedVariables false
set_option linter.unusedSimpArgs false
section
namespace Go.K
open Go Go.Proofs.YtilhlcnekkkajaaGreat
def ownK (t : Tx) (k : Nat) : List En := if checkT t = 0 then (List.range k).map (outE 0 (newE t 0)) else []
def twoV (V : List En) (t : Tx) : List En := ownK t t.outs.length ++ V
theorem twoV_eq (V : List En) (t : Tx) : twoV V t = ownK t t.outs.length ++ V := rfl
theorem ownK_zero (t : Tx) : ownK t 0 = [] := by unfold ownK; split <;> rfl
theorem ownK_succ {t : Tx} (h : checkT t = 0) (k : Nat) : ownK t (k + 1) = ownK t k ++ [outE 0 (newE t 0) k] := by
  unfold ownK
  rw [if_pos h, if_pos h, List.range_succ, List.map_append]; rfl
theorem ownK_not {t : Tx} (h : checkT t ≠ 0) (k : Nat) : ownK t k = [] := by unfold ownK; rw [if_neg h]
theorem ownK_len (t : Tx) (k : Nat) : (ownK t k).length ≤ k := by
  unfold ownK
  split
  · simp
  · simp
theorem idS_ok {t : Tx} (h : checkT t = 0) : idS t = idT t := by unfold idS; rw [if_pos h]
theorem outE_own {t : Tx} {k : Nat} (h : checkT t = 0) (hk : k < t.outs.length) : outE 0 (newE t 0) k = (⟨idS t, (k : Nat)⟩, ⟨t.outs[k].v, t.outs[k].s, 0⟩) := by
  rw [idS_ok h]
  unfold outE
  show ((⟨idT t, ((k : Nat) : Int)⟩, ⟨(t.outs.getD k default).v, (t.outs.getD k default).s, 0⟩) : En) = _
  simp only [List.getD_eq_getElem?_getD, List.getElem?_eq_getElem hk, Option.getD_some]
theorem twoV_mem {V : List En} {t : Tx} {e : En} (h : e ∈ twoV V t) : e ∈ V ∨ ∃ k, ∃ h : k < t.outs.length, e.1.i = (k : Nat) ∧ e.2.v = t.outs[k].v := by
  unfold twoV at h
  rcases List.mem_append.1 h with h | h
  · right
    by_cases hc : checkT t = 0
    · unfold ownK at h
      rw [if_pos hc] at h
      obtain ⟨k, hk, rfl⟩ := List.mem_map.1 h
      have hk := List.mem_range.1 hk
      refine ⟨k, hk, ?_, ?_⟩
      · rw [outE_own hc hk]
      · rw [outE_own hc hk]
    · rw [ownK_not hc] at h; cases h
  · exact .inl h
theorem outsP_bound (s : ByteArray) {C : Int} (h0 : 0 ≤ C) : ∀ (k : Nat) (left : Int), -100000 ≤ left → left ≤ C → ∀ o ∈ outsP s k left, 0 ≤ o.v ∧ o.v ≤ C
  | 0, _, _, _ => fun o ho => by cases ho
  | k + 1, left, h1, h2 => fun o ho => by
    obtain ⟨h3, h4, h5, h6⟩ := cutP_bound (k := k + 1) (by omega) h1 h2 h0
    rw [outsP] at ho
    rcases List.mem_cons.1 ho with rfl | ho
    · exact ⟨h3, h4⟩
    · exact outsP_bound s h0 k _ h5 h6 o ho
theorem makeP_vals {V : List En} {B : Int} (hB : 0 ≤ B) (hV : ∀ e ∈ V, 0 ≤ e.2.v ∧ e.2.v ≤ B) {z : PSm} (hz : 0 ≤ z.fee ∧ z.fee ≤ 65535) : ∀ o ∈ (makeP V z).outs, 0 ≤ o.v ∧ o.v ≤ 4 * B := by
  have h := sumP_le hB hV z
  exact outsP_bound _ (by omega) _ _ (by omega) (by omega)
theorem twoV_ok {V : List En} {B : Int} (hB : 0 ≤ B) (hV : ∀ e ∈ V, 0 ≤ e.2.v ∧ e.2.v ≤ B) (hi : ∀ e ∈ V, is32 e.1.i) {z : PSm} (hz : 0 ≤ z.fee ∧ z.fee ≤ 65535) : (∀ e ∈ twoV V (makeP V z), 0 ≤ e.2.v ∧ e.2.v ≤ 4 * B) ∧ (∀ e ∈ twoV V (makeP V z), is32 e.1.i) ∧ (twoV V (makeP V z)).length ≤ 3 + V.length := by
  have ho := (makeP_outs V z).2
  refine ⟨fun e he => ?_, fun e he => ?_, ?_⟩
  · rcases twoV_mem he with h | ⟨k, hk, -, e1⟩
    · have := hV e h; omega
    · rw [e1]; exact makeP_vals hB hV hz _ (List.getElem_mem hk)
  · rcases twoV_mem he with h | ⟨k, hk, e1, -⟩
    · exact hi e h
    · rw [e1]; unfold is32; omega
  · have := ownK_len (makeP V z) (makeP V z).outs.length
    unfold twoV
    rw [List.length_append]; omega
theorem size_few {t : Tx} (h : t.Sz) (hi : t.ins.length ≤ 4) : sizeT t ≤ 500000 := by
  have a1 := h.e3 false
  have a2 := h.e3 true
  have a3 := catB_size encWit 12000 t.ins fun x hx => h.wit1 hx
  have e1 : (encT false t).size = (enc3 false t).size + 4 := by
    unfold encT enc4
    simp only [Bool.false_eq_true, if_false, ByteArray.size_append, leS_size]
    have h0 : (⟨#[]⟩ : ByteArray).size = 0 := rfl
    omega
  have e2 : (encT true t).size = (enc3 true t).size + (catB encWit t.ins).size + 4 := by
    unfold encT enc4
    simp only [if_true, ByteArray.size_append, leS_size]
  unfold sizeT weightT
  cases witB t
  · rw [e1]; omega
  · rw [e1, e2]; omega
end Go.K
end
section
namespace Go.K
open Go Go.Proofs.YtilhlcnekkkajaaGreat
structure PAct where
  pair : Bool
  a : PSm
  b : PSm
  again : UInt8
instance : Inhabited PAct := ⟨⟨false, default, default, 0⟩⟩
def pactCs (z : PAct) (fa fb : Value) : List Value := .bool z.pair :: (psmCs z.a fa ++ (psmCs z.b fb ++ [u8V z.again]))
def pactR : R PAct where
  k := 16
  pos := by decide
  ag := true
  rel := fun M w cs z => ∃ fa fb, cs = pactCs z fa fb ∧ psmR.rel M w (psmCs z.a fa) z.a ∧ psmR.rel M w (psmCs z.b fb) z.b
  len := fun ⟨_, _, h, _⟩ => by rw [h]; rfl
  one := fun ⟨fa, fb, h, h1, h2⟩ v hv => by
    subst h
    rw [pactCs, List.mem_cons, List.mem_append, List.mem_append] at hv
    rcases hv with rfl | hv | hv | hv
    · rfl
    · exact psmR.one h1 v hv
    · exact psmR.one h2 v hv
    · simp at hv; subst hv; rfl
  step := fun ⟨fa, fb, h, h1, h2⟩ c hL hM => ⟨fa, fb, h, psmR.step h1 c hL hM, psmR.step h2 c hL hM⟩
end Go.K
end
section
namespace Go.Proofs.YtilhlcnekkkajaaGreat
open Go Go.K Go.ChangeShapes Go.WideShapes Go.ChangeAt Go.RowKit
set_option maxRecDepth 100000
theorem own : ownKnob Tryz.prog.godebug = none := by kernel_rfl
theorem laidOut : laidOutB Tryz.prog = true := by kernel_rfl
theorem c_u8 : Tryz.prog.cellsOf 5 = 1 := by kernel_rfl
theorem c_u16 : Tryz.prog.cellsOf 25 = 1 := by kernel_rfl
theorem c_bool : Tryz.prog.cellsOf 4 = 1 := by kernel_rfl
theorem c_lu8 : Tryz.prog.cellsOf 24 = 1 := by kernel_rfl
theorem reads_u8 {W : World} {c : List Value} (h : Reads Tryz.prog W 5 c) : ∃ b : UInt8, c = [u8V b] := by
  obtain ⟨n, e, h1, h2⟩ := reads_int Tryz.underlying5 h
  have h1 : 0 ≤ n := h1
  have h2 : n ≤ 255 := h2
  refine ⟨UInt8.ofNat n.toNat, ?_⟩
  have : (UInt8.ofNat n.toNat).toNat = n.toNat := by rw [UInt8.toNat_ofNat']; omega
  unfold u8V
  rw [e, this]
  congr 2; omega
theorem reads_u16 {W : World} {c : List Value} (h : Reads Tryz.prog W 25 c) : ∃ n : Int, c = [.int .u16 n] ∧ 0 ≤ n ∧ n ≤ 65535 := by
  obtain ⟨n, e, h1, h2⟩ := reads_int Tryz.underlying25 h
  exact ⟨n, e, h1, h2⟩
theorem reads_psm {W : World} {c : List Value} (h : Reads Tryz.prog W 27 c) : ∃ z : PSm, psmR.rel [] W c z := by
  obtain ⟨h1, h2⟩ := reads_struct Tryz.underlying27 h
  have l : c.length = 7 := h1.trans (by kernel_rfl)
  match c, l with
  | [c0, c1, c2, c3, c4, c5, c6], _ =>
    have g0 := h2 _ (List.mem_of_getElem? (i := 0) rfl)
    have g1 := h2 _ (List.mem_of_getElem? (i := 1) rfl)
    have g2 := h2 _ (List.mem_of_getElem? (i := 2) rfl)
    have g3 := h2 _ (List.mem_of_getElem? (i := 3) rfl)
    have g4 := h2 _ (List.mem_of_getElem? (i := 4) rfl)
    have g5 := h2 _ (List.mem_of_getElem? (i := 5) rfl)
    have g6 := h2 _ (List.mem_of_getElem? (i := 6) rfl)
    simp only [c_lu8, List.drop_zero, List.drop_succ_cons, List.take_succ_cons, List.take_zero] at g0
    obtain ⟨frm, hf, hfl⟩ := reads_slR u8R Tryz.underlying24 (by kernel_rfl) (fun c hc => by
      obtain ⟨b, e⟩ := reads_u8 hc
      exact ⟨b, by subst e; rfl⟩) g0
    obtain ⟨b1, e1⟩ := reads_u8 g1
    obtain ⟨f, e2, hf1, hf2⟩ := reads_u16 g2
    obtain ⟨b3, e3⟩ := reads_u8 g3
    obtain ⟨b4, e4⟩ := reads_u8 g4
    obtain ⟨o, e5⟩ := reads_bool Tryz.underlying4 g5
    obtain ⟨b6, e6⟩ := reads_u8 g6
    simp only [c_u8, c_u16, c_bool, List.drop_zero, List.drop_succ_cons, List.take_succ_cons, List.take_zero, List.cons.injEq, and_true] at e1 e2 e3 e4 e5 e6
    exact ⟨⟨frm, b1, f, b3, b4, o, b6⟩, c0, by rw [e1, e2, e3, e4, e5, e6]; rfl, hf, hf1, hf2⟩
theorem reads_u16s {W : World} {v : Value} (h : Reads Tryz.prog W 22 [v]) : ∃ l, SlR u16R [] W v l ∧ l.length ≤ maxLen :=
  reads_slR u16R Tryz.underlying22 (by kernel_rfl) (fun c hc => by
    obtain ⟨n, e, h1, h2⟩ := reads_u16 hc
    exact ⟨n, by subst e; exact ⟨rfl, h1, h2⟩⟩) h
theorem u16_all {M : List Nat} {w : World} {v : Value} {l : List Int} (h : SlR u16R M w v l) : ∀ a ∈ l, 0 ≤ a ∧ a ≤ 65535 := by
  obtain ⟨css, h1, h2, h3⟩ := h
  intro a ha
  obtain ⟨i, hi, rfl⟩ := List.getElem_of_mem ha
  exact (h2.get i (by rw [h2.length]; exact hi) hi).2
end Go.Proofs.YtilhlcnekkkajaaGreat
end
section
namespace Go.Proofs.YtilhlcnekkkajaaGreat
open Go Go.K Go.ChangeShapes Go.WideShapes Go.ChangeAt Go.RowKit
set_option maxRecDepth 100000
theorem c_small : Tryz.prog.cellsOf 27 = 7 := by kernel_rfl
theorem reads_pact {W : World} {c : List Value} (h : Reads Tryz.prog W 29 c) : ∃ z : PAct, pactR.rel [] W c z := by
  obtain ⟨h1, h2⟩ := reads_struct Tryz.underlying29 h
  have l : c.length = 16 := h1.trans (by kernel_rfl)
  match c, l with
  | [c0, c1, c2, c3, c4, c5, c6, c7, c8, c9, c10, c11, c12, c13, c14, c15], _ =>
    have g0 := h2 _ (List.mem_of_getElem? (i := 0) rfl)
    have g1 := h2 _ (List.mem_of_getElem? (i := 1) rfl)
    have g2 := h2 _ (List.mem_of_getElem? (i := 2) rfl)
    have g3 := h2 _ (List.mem_of_getElem? (i := 3) rfl)
    obtain ⟨p, e0⟩ := reads_bool Tryz.underlying4 g0
    obtain ⟨a, ha⟩ := reads_psm g1
    obtain ⟨b, hb⟩ := reads_psm g2
    obtain ⟨n, e3⟩ := reads_u8 g3
    simp only [c_small, c_u8, c_bool, List.drop_zero, List.drop_succ_cons, List.take_succ_cons, List.take_zero, List.cons.injEq, and_true] at e0 ha hb e3
    obtain ⟨fa, ea, ha'⟩ := id ha
    obtain ⟨fb, eb, hb'⟩ := id hb
    rw [ea] at ha
    rw [eb] at hb
    exact ⟨⟨p, a, b, n⟩, fa, fb, by rw [e0, e3]; show _ :: ([c1, c2, c3, c4, c5, c6, c7] ++ ([c8, c9, c10, c11, c12, c13, c14] ++ [_])) = _; rw [ea, eb]; rfl, ha, hb⟩
theorem reads_pacts {W : World} {v : Value} (h : Reads Tryz.prog W 23 [v]) : ∃ l, SlR pactR [] W v l ∧ l.length ≤ maxLen :=
  reads_slR pactR Tryz.underlying23 (by kernel_rfl) (fun _ h => reads_pact h) h
end Go.Proofs.YtilhlcnekkkajaaGreat
end
section
namespace Go.Proofs.YtilhlcnekkkajaaGreat
open Go Go.K
attribute [local irreducible] regK codeK retK KOp.wp K.Spec u32 leS vnS str zero32 sha2 encT idT sizeT checkT grantB idN stepR workL reachE findI dropG addG aboveL belowL idsOf feeD sizeD cntS metL confL evL inS inB needI needL feeOf needN needE mayE freshP rulesL fitsL feeP dustI numAt byteAt plainP dropAll accE accIds accL askedF

theorem Gr.low {w : World} {B B' g : Nat} {M : List Nat} {l : List Ent} (h : Gr w B g M l) (hb : B' ≤ B) : Gr w B' g M l := by
  obtain ⟨b1, vo, b2, m, sp, hP, e⟩ := h
  have := hP.lo
  exact ⟨b1, vo, b2, m, sp, ⟨hP.at_, hP.ents, hP.pts, hP.ord.lower hb, hP.inv, hP.nd, by omega, by omega, by omega⟩, e⟩
set_option maxHeartbeats 4000000 in
theorem accept_spec {B g : Nat} {M N : List Nat} {l : List Ent} {cs : List Value} {t : Tx} {v : Value} {f : Pt → Option Cn} (h rate : Int) (w : World) (hG : Gr w B g M l) (hV : ViewR w v f) (ht : txR.rel N w cs t) (hs : t.Sm) (hN : ∀ b ∈ N, b < w.heap.size) (hMN : ∀ b ∈ M, b ∈ N) (hl : l.length ≤ 1000) (hf : ∀ x ∈ l, x.fee ≤ 1000000000000) :
    K.Spec Tryz.prog F.pool_Accept [.pointer (some ⟨g, 0, none⟩), .agg cs.toArray, termV v h rate] w fun r w' => ∃ u e M', r = .tuple #[u, e] ∧ Own strE T.string w.heap.size w' u (accIds f l t h rate) ∧ ErrR w' 1 e (accE f l t h rate).1 (accE f l t h rate).2 ∧ Gr w' B g M' (accL f l t h rate) ∧ Chg M w w' ∧ (∀ b ∈ M', b ∈ M ∨ w.heap.size ≤ b) ∧ (∀ b ∈ blkOf u, b ∉ M') := by
  have ht0 := ht
  have hM : ∀ b ∈ M, b < w.heap.size := fun b hb => hN b (hMN b hb)
  obtain ⟨iv, ov, rfl, hi, ho, hv⟩ := ht
  obtain ⟨vt, vu, rfl⟩ : ∃ vt vu, v = .iface vt vu := by obtain ⟨⟨a, b, e, _⟩, _⟩ := hV; exact ⟨a, b, e⟩
  have fail : ∀ {w' : World} {e : Value} {c a : Int}, Ext w w' → accE f l t h rate = (c, a) → accIds f l t h rate = [] → accL f l t h rate = l → ErrR w' 1 e c a → ∃ u e' M', Value.tuple #[.slice none 0 0, e] = .tuple #[u, e'] ∧ Own strE T.string w.heap.size w' u (accIds f l t h rate) ∧ ErrR w' 1 e' (accE f l t h rate).1 (accE f l t h rate).2 ∧ Gr w' B g M' (accL f l t h rate) ∧ Chg M w w' ∧ (∀ b ∈ M', b ∈ M ∨ w.heap.size ≤ b) ∧ (∀ b ∈ blkOf u, b ∉ M') := fun x e1 e2 e3 he =>
    ⟨_, _, M, rfl, by rw [e2]; exact Own.nil _ _ _, by rw [e1]; exact he, by rw [e3]; exact hG.ext x, x.mono (by simp), fun b hb => .inl hb, fun b hb => by simp [blkOf] at hb⟩
  by_cases h0 : (plainP f l t h).2.1 = 0
  · obtain ⟨hc, hg, hh, hgood⟩ := plain_good h0
    have hgf := (goodB_iff _).1 hgood
    have hz := (sz_of_check hs hc).sizeM
    have e0 : sizeV t = .tuple #[.int .i64 (sizeT t : Nat), .int .i64 0] := by rw [sizeV, if_pos hc]
    generalize hfee : (plainP f l t h).1 = fee at *
    refine s_pool_Accept rfl ?_
    unfold k_pool_Accept
    refine oy ?_
    repeat (first|(refine zD (d := some 4) rfl rfl (fun bt wt xt bt' (rt : Row wt ⟨bt, 0, none⟩ (txCs t iv ov)) hbt0=>?_))|(refine zD (d := some 5) (cs := [.iface vt vu, .int .i64 h, .int .i64 rate]) rfl rfl (fun bs ws xs bs' (rs : Row ws ⟨bs, 0, none⟩ [.iface vt vu, .int .i64 h, .int .i64 rate]) hbs0=>?_))|(refine zC (d := some 21) rfl (plain_spec (M := M) (N := N) (l := l) (f := f) (cs := txCs t iv ov) (t := t) h rate _ (hG.r.ext (by exact fx)) (fun b hb => Nat.lt_of_lt_of_le (hM b hb) (Ext.size (by exact fx))) (hV.ext (by exact fx)) (R.ext ht0 (by exact fx)) hs) ?_; rintro _ w3 ⟨e, rfl, he, x3⟩; obtain ⟨hn1, hn2⟩ := he.nil_iff)|(first|refine go1 ?_|refine zg (fun _ _=>?_)|refine zi (fun _ _=>?_)))
    obtain ⟨rfl, -⟩ := hn1 h0
    rw [hfee]
    clear he hn1 hn2
    repeat (first|(refine zC (d := some 29) rfl (size_spec (M := N) (cs := txCs t iv ov) (t := t) _ (R.ext ht0 (by exact fx)) hs) ?_; rintro _ w4 ⟨rfl, x4⟩; rw [e0])|(refine zC (d := some 35) rfl (asked_spec (.iface vt vu) rfl h rate (sizeT t) (by omega) _) ?_; rintro _ w5 ⟨rfl, x5⟩)|(first|refine go1 ?_|refine zg (fun _ _=>?_)|refine zi (fun _ _=>?_)))
    refine zL (p := fee < askedF rate (sizeT t)) rfl (fun h1 => ?_) (fun h1 => ?_)
    · have e := acc_fee (rate := rate) h0 (by rw [hfee]; exact h1)
      obtain ⟨e2, e3⟩ := acc_err (by decide) e
      repeat (first|refine go1 ?_|refine zg (fun _ _=>?_)|refine zi (fun _ _=>?_))
      exact x_ret rfl (fail (by exact fx) e e2 e3 (ErrR.num _ _ (by decide)))
    repeat (first|(refine zC (d := some 41) rfl (rules_spec (M := M) (N := N) (l := l) (cs := txCs t iv ov) (t := t) fee _ (hG.r.ext (by exact fx)) (fun b hb => Nat.lt_of_lt_of_le (hM b hb) (Ext.size (by exact fx))) (R.ext ht0 (by exact fx)) hs hl hf) ?_; rintro _ w6 ⟨rfl, x6⟩)|(first|refine go1 ?_|refine zg (fun _ _=>?_)|refine zi (fun _ _=>?_)))
    refine zN (p := rulesL l t fee = 0) rfl (fun h2 => ?_) (fun h2 => ?_)
    · have e := acc_rules (rate := rate) h0 (by rw [hfee]; exact h1) (by rw [hfee]; exact h2)
      obtain ⟨e2, e3⟩ := acc_err (by rw [hfee]; exact h2) e
      rw [hfee] at e
      repeat (first|refine go1 ?_|refine zg (fun _ _=>?_)|refine zi (fun _ _=>?_))
      exact x_ret rfl (fail (by exact fx) e e2 e3 (ErrR.num _ _ h2))
    repeat (first|refine go1 ?_|refine zg (fun _ _=>?_)|refine zi (fun _ _=>?_))
    refine zC (d := some 48) rfl (evicted_spec (M := M) (N := N) (l := l) (cs := txCs t iv ov) (t := t) _ (hG.r.ext (by exact fx)) (fun b hb => Nat.lt_of_lt_of_le (hM b hb) (Ext.size (by exact fx))) (R.ext ht0 (by exact fx)) hs.ins hl) ?_
    rintro u w8 ⟨ou8, x7⟩
    have rt8 : Row w8 ⟨bt, 0, none⟩ (txCs t iv ov) := rt.ext (by exact fx)
    have t8 := R.ext ht0 (show Ext w w8 by exact fx)
    have G8 : Gr w8 B g M l := hG.ext (show Ext w w8 by exact fx)
    have hbu : ∀ b ∈ blkOf u, w.heap.size ≤ b := fun b hb => Nat.le_trans (Ext.size (show Ext w w6 by exact fx)) (ou8.base b hb)
    have hbl : ∀ b ∈ blkOf u, b < w8.heap.size := fun b hb => Own.blk_lt ou8 b hb
    have s06 : w.heap.size ≤ w6.heap.size := Ext.size (show Ext w w6 by exact fx)
    have s8 : bt < w8.heap.size := Nat.lt_of_lt_of_le bt'.lt (Ext.size (show Ext wt w8 by exact fx))
    have x08 : Unit → Ext w w8 := fun _ => by exact fx
    have s08 := (x08 ()).size
    clear x3 x4 x5 x6 x7 xs xt rt rs bt' bs'
    have su := ou8.sl
    have hM8 : ∀ b ∈ M, b < w8.heap.size := fun b hb => Nat.lt_of_lt_of_le (hM b hb) s08
    have hid : (idsOf l (evL l t)).length ≤ 1000 := Nat.le_trans (idsOf_length l (evL l t)) hl
    obtain ⟨ids, hids⟩ : ∃ ids, idsOf l (evL l t) = ids := ⟨_, rfl⟩
    rw [hids] at ou8 su hid
    repeat' (first|(refine zg (fun w9 x9 => ?_))|(refine st_both ?_ ?_)|(refine zC (d := some 51) rfl (without_spec (M := M) (l := l) (ids := ids) _ (G8.ext (by exact fx)).r (fun b hb => Nat.lt_of_lt_of_le (hM8 b hb) (Ext.size (by exact fx))) hl (su.ext (by exact fx)) hid) ?_; rintro _ w10 ⟨g1, M1, rfl, g10, x10⟩)|(refine st_joinV (b := .cons ⟨some 53, _, _⟩ _) (fun (p : Nat × List Nat) w' => Ext w8 w' ∧ Gr w' w8.heap.size p.1 p.2 (dropAll l ids)) (fun p => [(0, .pointer (some ⟨g, 0, none⟩)), (4, .pointer (some ⟨bt, 0, none⟩)), (8, .int .i64 fee), (13, u), (51, .pointer (some ⟨p.1, 0, none⟩)), (52, .agg (txCs t iv ov).toArray)]) ?_ ?_)|(rintro ⟨g1, M1⟩ ρ7 w10 ⟨x10, g10⟩; try dsimp only)|(exact ⟨(g1, M1), ⟨rfl, rfl, rfl, rfl, rfl, rfl, trivial⟩, by exact fx, Gr.low g10 (Ext.size x9)⟩)|(first|refine go1 ?_|refine zg (fun _ _=>?_)|refine zi (fun _ _=>?_)))
    have hrest : restL l t = dropAll l ids := by unfold restL; rw [hids]
    dsimp only at g10
    refine zC (d := some 53) rfl (fits_spec (M := M1) (N := N) (l := dropAll l ids) (cs := txCs t iv ov) (t := t) _ g10.r (Gr.lt g10) (R.ext t8 x10) hs (Nat.le_trans (dropAll_len ids l) hl)) ?_
    rintro _ w11 ⟨rfl, x11⟩
    repeat (first|refine go1 ?_|refine zg (fun _ _=>?_)|refine zi (fun _ _=>?_))
    have rt11 : Row w11 ⟨bt, 0, none⟩ (txCs t iv ov) := rt8.ext (by exact fx)
    have x811 : Ext w8 w11 := x10.trans x11
    have t11 := R.ext t8 x811
    have G11 := G8.ext x811
    have ou11 := ou8.ext x811
    have s811 := x811.size
    have x011 : Unit → Ext w w11 := fun _ => (x08 ()).trans x811
    clear x10 x11 x811 g10 rt8 ou8 su
    refine zN (p := fitsL (dropAll l ids) t = 0) rfl (fun h3 => ?_) (fun h3 => ?_)
    · have e := acc_fits (rate := rate) h0 (by rw [hfee]; exact h1) (by rw [hfee]; exact h2) (by rw [hrest]; exact h3)
      rw [hrest] at e
      obtain ⟨e2, e3⟩ := acc_err h3 e
      repeat (first|refine go1 ?_|refine zg (fun _ _=>?_)|refine zi (fun _ _=>?_))
      exact x_ret rfl (fail (x011 ()) e e2 e3 (ErrR.num _ _ h3))
    obtain ⟨e1, e2, e3⟩ := acc_ok (rate := rate) h0 (by rw [hfee]; exact h1) (by rw [hfee]; exact h2) (by rw [hrest]; exact h3)
    rw [hids] at e2
    rw [hrest, hfee] at e3
    have d0 : dropAll l (ids.take 0) = l := by unfold dropAll; rfl
    have huM : ∀ a m c, u = .slice (some a) m c → a.block ∉ M := fun a m c e hb => by
      have h5 := hbu a.block (by rw [e]; simp [blkOf])
      have h6 := hM _ hb
      omega
    repeat (first|(refine st_len (d := some 59) (E := strE) (l := ids) rfl ou11.sl ?_)|(refine c_loopV (fun (p : Nat × List Nat) w' => Chg M w11 w' ∧ p.1 ≤ ids.length ∧ Gr w' B g p.2 (dropAll l (ids.take p.1)) ∧ (∀ b ∈ p.2, b ∈ M ∨ w11.heap.size ≤ b)) (fun p => [(0, .pointer (some ⟨g, 0, none⟩)), (4, .pointer (some ⟨bt, 0, none⟩)), (8, .int .i64 fee), (13, u), (58, u), (59, .int .i64 (ids.length : Nat)), (60, .int .i64 (p.1 : Nat))]) (fun p => ids.length - p.1) (0, M) ⟨rfl, rfl, rfl, rfl, rfl, rfl, rfl, trivial⟩ ⟨Chg.refl _ _, by simp, by rw [d0]; exact G11, fun b hb => .inl hb⟩ ?_; rintro ⟨i, Mi⟩ ρ w12 ⟨c12, hil, g12, m12⟩; simp only at hil g12 m12; dsimp only)|(first|refine go1 ?_|refine zg (fun _ _=>?_)|refine zi (fun _ _=>?_)))
    have hlen : (dropAll l (ids.take i)).length ≤ 1000 := Nat.le_trans (dropAll_len _ l) hl
    have s12 := c12.size
    refine zL (p := ((i : Nat) : Int) < ((ids.length : Nat) : Int)) rfl (fun h => ?_) (fun h => ?_)
    · have hii : i < ids.length := by omega
      have su12 := SlE.chg c12 ou11.sl huM
      repeat' (first|(refine st_elemE (d := some 62) (E := strE) rfl rfl (n := i) (l := ids) su12 rfl hii (fun ad r5 => ?_); have r5 : Row w12 ad [Value.string ids[i]] := r5)|(refine zC (d := some 66) rfl (gdrop_spec (l := dropAll l (ids.take i)) ids[i] _ g12 hlen) ?_; rintro _ w13 ⟨M4, rfl, g13, c13, m13⟩)|(first|refine go1 ?_|refine zg (fun _ _=>?_)|refine zi (fun _ _=>?_)))
      refine ⟨(i + 1, M4), ⟨rfl, rfl, rfl, rfl, rfl, rfl, rfl, trivial⟩, ⟨(c12.trans c13).mono (fun b hb => ?_), hii, by show Gr w13 B g M4 (dropAll l (ids.take (i + 1))); rw [dropAll_succ hii]; exact g13, fun b hb => ?_⟩, by show ids.length - (i + 1) < ids.length - i; omega⟩
      · rcases List.mem_append.1 hb with h5 | h5
        · exact .inl h5
        · exact m12 b h5
      · rcases m13 b hb with h5 | h5
        · exact m12 b h5
        · exact .inr (Nat.le_trans s12 h5)
    · have hei : ids.take i = ids := List.take_of_length_le (by omega)
      rw [hei] at g12 hlen
      have rt12 : Row w12 ⟨bt, 0, none⟩ (txCs t iv ov) := rt11.chg c12 (fun hb => by have : bt < w.heap.size := hM bt hb; omega)
      have t12 : txR.rel (N ++ Mi) w12 (txCs t iv ov) t := R.step txR t11 c12 (fun b hb => .inl (hMN b hb)) (fun b hb => by
        rcases List.mem_append.1 hb with h5 | h5
        · exact .inl h5
        · exact (m12 b h5).imp (hMN b) id)
      have hN12 : ∀ b ∈ N ++ Mi, b < w12.heap.size := fun b hb => by
        rcases List.mem_append.1 hb with h5 | h5
        · have := hN b h5; omega
        · exact Gr.lt g12 b h5
      repeat' (first|(refine zC (d := some 71) rfl (gadd_spec (N := N ++ Mi) (cs := txCs t iv ov) fee _ g12 t12 hs (by unfold is64; omega) hN12 (fun b hb => List.mem_append_right _ hb) hlen) ?_; rintro _ w14 ⟨M7, rfl, g14, c14, m14⟩)|(first|refine go1 ?_|refine zg (fun _ _=>?_)|refine zi (fun _ _=>?_)))
      have hdis : ∀ b ∈ blkOf u, b ∉ Mi := fun b hb hm => by
        rcases m12 b hm with h5 | h5
        · have := hM b h5; have := hbu b hb; omega
        · have := hbl b hb; omega
      have hdis0 : ∀ b ∈ blkOf u, b ∉ M := fun b hb hm => by have := hM b hm; have := hbu b hb; omega
      refine x_ret rfl ⟨u, .nilIface, M7, rfl, ?_, by rw [e1]; exact ErrR.none_ _ _, by rw [e3]; exact g14, ?_, fun b hb => ?_, fun b hb hm => ?_⟩
      · rw [e2]
        exact ((ou11.chg c12 hdis0).chg c14 hdis).lower (by omega)
      · refine (Ext.chg (x011 ()) (c12.trans c14)).mono (fun b hb => ?_)
        rcases List.mem_append.1 hb with h5 | h5
        · exact .inl h5
        · rcases m12 b h5 with h6 | h6
          · exact .inl h6
          · exact .inr (by omega)
      · rcases m14 b hb with h5 | h5
        · rcases m12 b h5 with h6 | h6
          · exact .inl h6
          · exact .inr (by omega)
        · exact .inr (by omega)
      · rcases m14 b hm with h5 | h5
        · exact hdis b hb h5
        · have := hbl b hb; omega
  · obtain ⟨e1, e2, e3⟩ := acc_plain (rate := rate) h0
    refine s_pool_Accept rfl ?_
    unfold k_pool_Accept
    refine oy ?_
    repeat (first|(refine zD (d := some 4) rfl rfl (fun bt wt xt bt' (rt : Row wt ⟨bt, 0, none⟩ (txCs t iv ov)) hbt0=>?_))|(refine zD (d := some 5) (cs := [.iface vt vu, .int .i64 h, .int .i64 rate]) rfl rfl (fun bs ws xs bs' (rs : Row ws ⟨bs, 0, none⟩ [.iface vt vu, .int .i64 h, .int .i64 rate]) hbs0=>?_))|(refine zC (d := some 21) rfl (plain_spec (M := M) (N := N) (l := l) (f := f) (cs := txCs t iv ov) (t := t) h rate _ (hG.r.ext (by exact fx)) (fun b hb => Nat.lt_of_lt_of_le (hM b hb) (Ext.size (by exact fx))) (hV.ext (by exact fx)) (R.ext ht0 (by exact fx)) hs) ?_; rintro _ w3 ⟨e, rfl, he, x3⟩; obtain ⟨hn1, hn2⟩ := he.nil_iff)|(first|refine go1 ?_|refine zg (fun _ _=>?_)|refine zi (fun _ _=>?_)))
    obtain ⟨et, eu, rfl⟩ := hn2 h0
    repeat (first|refine go1 ?_|refine zg (fun _ _=>?_)|refine zi (fun _ _=>?_))
    exact x_ret rfl (fail (by exact fx) e1 e2 e3 (he.ext (by exact fx)))
end Go.Proofs.YtilhlcnekkkajaaGreat
end
section
namespace Go.Proofs.YtilhlcnekkkajaaGreat
open Go Go.RowKit Go.Extern.Stop Go.Stop Go.Extern

theorem isTypeOf (v : Value) (w : World) : (Extern.ReflectliteType.typeOf #[.iface 56 v]).run Tryz.prog w = .ok (.iface 230 (.agg #[.pointer (some ⟨3, 56, none⟩)])) w := by kernel_rfl
theorem isMethodComparable (v : Value) (w : World) : (Go.method 467 230 v "Comparable").run Tryz.prog w = .ok (277, v) w := by kernel_rfl
theorem isComparable (w : World) : ((Extern.ReflectliteType.method fun t => do Extern.Rtype.noPackHeld "Comparable" t; (fun a => Value.bool a.comparable) <$> typeInfo t) #[.agg #[.pointer (some ⟨3, 56, none⟩)]]).run Tryz.prog w = .ok (.bool true) w := by kernel_rfl

set_option maxRecDepth 20000 in
theorem is_same (a : Int) (w : World) :
    Calls Tryz.prog 39 #[.iface 56 (.int .i64 a), .iface 56 (.int .i64 a)] w fun e w' => e = .returned (.bool true) ∧ w' = w := by
  have h8 := @run_callFunc_extern Tryz.prog 87 _ Extern.ReflectliteType.typeOf Tryz.func87 (by kernel_rfl) (by kernel_rfl) (by kernel_rfl) (by kernel_rfl)
  have h32 := @run_callFunc_extern Tryz.prog 277 _ (Extern.ReflectliteType.method fun t => do Extern.Rtype.noPackHeld "Comparable" t; pure (.bool (← typeInfo t).comparable)) Tryz.func277 (by kernel_rfl) (by kernel_rfl) (by kernel_rfl) (by kernel_rfl)
  have tT := isTypeOf
  have cT := isComparable
  have mR := isMethodComparable
  have heq := Go.Lib.run_eql_iface_int (P := Tryz.prog) w (t := 42) (tx := 56) (k := .i64) (q := .i64) a a Tryz.underlying42 (by kernel_rfl) Tryz.underlying56
  go_enter Tryz.func39, Tryz.ntmps39
  go_wp2
  refine wp_loop_rounds 1 ?_
  rw [rounds_succ]
  go_wp2
  go_ret
  exact ⟨rfl, rfl⟩
theorem errIs_same (a : Int) (w : World) : K.Spec Tryz.prog 39 [.iface 56 (.int .i64 a), .iface 56 (.int .i64 a)] w fun v w' => v = .bool true ∧ w' = w :=
  Calls.mono (is_same a w) fun _ _ h => ⟨_, h.1, rfl, h.2⟩
end Go.Proofs.YtilhlcnekkkajaaGreat
end
