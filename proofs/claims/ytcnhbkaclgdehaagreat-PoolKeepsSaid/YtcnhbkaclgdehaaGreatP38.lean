/- Plain: transactions over coins, made of small numbers. What comes in for the laws of pools. Plain: what the document fixes of pools. Contracts: accepting a transaction, the walk. Contracts: errors.Is of equal numbers (walked with the kit's own steps). -/
import Derived.Test.YtcnhbkaclgdehaaGreatRows
import Derived.Test.YtcnhbkaclgdehaaGreatChecked
import Derived.ProofKit
import Derived.ShutString
import Derived.ChangeOld
import Derived.Below
import Derived.WalkKit
import Derived.LaidEql
import Derived.Lib.IfaceEq
import Derived.Stop.Asserts
import Derived.RowKitTokens
import Derived.Test.YtcnhbkaclgdehaaGreatP37
set_option linter.unusedVariables false
set_option linter.unusedSimpArgs false
section
namespace Go.K
open Go Go.Proofs.YtcnhbkaclgdehaaGreat
structure PSm where
  spends : List UInt8
  tag : UInt8
  fee : Int
  pays : UInt8
  mark : UInt8
  final : Bool
  wait : UInt8
instance : Inhabited PSm := ⟨⟨[], 0, 0, 0, 0, false, 0⟩⟩
def psmCs (z : PSm) (fv : Value) : List Value := [fv, u8V z.tag, .int .u16 z.fee, u8V z.pays, u8V z.mark, .bool z.final, u8V z.wait]
def psmR : R PSm where
  k := 7
  pos := by decide
  ag := true
  rel := fun M w cs z => ∃ fv, cs = psmCs z fv ∧ SlR u8R M w fv z.spends ∧ 0 ≤ z.fee ∧ z.fee ≤ 65535
  len := fun ⟨_, h, _⟩ => by rw [h]; rfl
  one := fun ⟨fv, h, hs, _⟩ v hv => by
    obtain ⟨b, c, rfl⟩ := hs.form
    subst h; simp [psmCs] at hv; rcases hv with rfl | rfl | rfl | rfl | rfl | rfl | rfl <;> rfl
  step := fun ⟨fv, h, hs, h2⟩ c hL hM => ⟨fv, h, hs.step c hL hM, h2⟩
/-- A number of two bytes. -/
def u16R : R Int where
  k := 1
  pos := by decide
  ag := false
  rel := fun _ _ cs n => cs = [.int .u16 n] ∧ 0 ≤ n ∧ n ≤ 65535
  len := fun ⟨h, _⟩ => by rw [h]; rfl
  one := fun ⟨h, _⟩ v hv => by subst h; simp at hv; subst hv; rfl
  step := fun h _ _ _ => h
/-! Coins of numbers. -/
def lockP : ByteArray := ⟨#[1, 1, 0, 0, 0, 0, 0, 0, 0]⟩
def coinP (n : Int) : Cn := ⟨10 * n, lockP, 1⟩
def coinsP (vals : List Int) : Nat → List En
  | 0 => []
  | n + 1 => refPut (coinsP vals n) ⟨idN (300 + n), 0⟩ (coinP (vals.getD n 0))
/-- The coin that a number names. -/
def pickP (V : List En) (s : UInt8) : Option En := if s.toNat < 250 ∧ 0 < V.length then V[s.toNat % V.length]? else none
def ptP (V : List En) (s : UInt8) : Pt := match pickP V s with
  | some e => e.1
  | none => ⟨idN s.toNat, 0⟩
def valP (V : List En) (s : UInt8) : Int := match pickP V s with
  | some e => e.2.v
  | none => 0
def seqP (z : PSm) : Int := if 0 < z.wait.toNat then ((z.wait.toNat % 8 : Nat) : Int) else if z.final then 4294967294 else 4294967293
def witZ (z : PSm) : ByteArray := str [0, UInt8.ofNat (z.tag.toNat % 3), 0]
def inP (V : List En) (z : PSm) (s : UInt8) : TIn := ⟨ptP V s, seqP z, [witZ z]⟩
def scrP (z : PSm) : ByteArray := ((⟨#[1, 1, 0]⟩ : ByteArray) ++ str [UInt8.ofNat (z.pays.toNat / 64)]) ++ (⟨#[0, 0, 0, 0, 0]⟩ : ByteArray)
def cutP (left : Int) (k : Nat) : Int := if left.tdiv (k : Nat) < 0 then 0 else left.tdiv (k : Nat)
def outsP (s : ByteArray) : Nat → Int → List TOut
  | 0, _ => []
  | k + 1, left => ⟨cutP left (k + 1), s⟩ :: outsP s k (left - cutP left (k + 1))
def sumP (V : List En) (z : PSm) : Int := ((z.spends.take 4).map (valP V)).sum
def makeP (V : List En) (z : PSm) : Tx := ⟨2, (z.spends.take 4).map (inP V z), outsP (scrP z) (1 + z.pays.toNat % 3) (sumP V z - z.fee), ((z.mark.toNat % 3 : Nat) : Int)⟩
theorem outsP_len (s : ByteArray) : ∀ (k : Nat) (left : Int), (outsP s k left).length = k
  | 0, _ => rfl
  | k + 1, left => by rw [outsP, List.length_cons, outsP_len s k]
theorem makeP_ins (V : List En) (z : PSm) : (makeP V z).ins.length ≤ 4 := by
  show ((z.spends.take 4).map (inP V z)).length ≤ 4
  rw [List.length_map, List.length_take]; omega
theorem makeP_outs (V : List En) (z : PSm) : 1 ≤ (makeP V z).outs.length ∧ (makeP V z).outs.length ≤ 3 := by
  show 1 ≤ (outsP _ _ _).length ∧ (outsP _ _ _).length ≤ 3
  rw [outsP_len]; omega
theorem makeP_sm (V : List En) (z : PSm) : (makeP V z).Sm := by
  refine ⟨by have := makeP_ins V z; omega, by have := makeP_outs V z; omega, fun x hx => ?_⟩
  obtain ⟨s, -, rfl⟩ := List.mem_map.1 (show x ∈ (z.spends.take 4).map (inP V z) from hx)
  show [witZ z].length ≤ 1000
  simp
theorem pick_mem {V : List En} {s : UInt8} {e : En} (h : pickP V s = some e) : e ∈ V := by
  unfold pickP at h
  split at h
  · exact List.mem_of_getElem? h
  · cases h
theorem ptP_is32 {V : List En} (hV : ∀ e ∈ V, is32 e.1.i) (s : UInt8) : is32 (ptP V s).i := by
  unfold ptP
  cases h : pickP V s with
  | some e => exact hV e (pick_mem h)
  | none => exact ⟨by show (0 : Int) ≤ 0; omega, by show (0 : Int) < 4294967296; omega⟩
theorem makeP_pts {V : List En} (hV : ∀ e ∈ V, is32 e.1.i) (z : PSm) : ∀ p ∈ points (makeP V z), is32 p.i := by
  intro p hp
  obtain ⟨x, hx, rfl⟩ := List.mem_map.1 hp
  obtain ⟨s, -, rfl⟩ := List.mem_map.1 (show x ∈ (z.spends.take 4).map (inP V z) from hx)
  exact ptP_is32 hV s
theorem valP_le {V : List En} {B : Int} (hB : 0 ≤ B) (hV : ∀ e ∈ V, 0 ≤ e.2.v ∧ e.2.v ≤ B) (s : UInt8) : 0 ≤ valP V s ∧ valP V s ≤ B := by
  unfold valP
  cases h : pickP V s with
  | some e => exact hV e (pick_mem h)
  | none => exact ⟨Int.le_refl _, hB⟩
theorem sum_take_le {V : List En} {B : Int} (hB : 0 ≤ B) (hV : ∀ e ∈ V, 0 ≤ e.2.v ∧ e.2.v ≤ B) : ∀ (l : List UInt8), 0 ≤ (l.map (valP V)).sum ∧ (l.map (valP V)).sum ≤ B * l.length
  | [] => by simp
  | s :: l => by
    have h1 := valP_le hB hV s
    have h2 := sum_take_le hB hV l
    rw [List.map_cons, List.sum_cons, List.length_cons]
    have e : B * ((l.length + 1 : Nat) : Int) = B * (l.length : Nat) + B := by push_cast; rw [Int.mul_add, Int.mul_one]
    rw [e]; omega
/-- What is left of an amount behind outputs. -/
theorem cutP_bound {left : Int} {k : Nat} (hk : 0 < k) (hl : -100000 ≤ left) {C : Int} (hC : left ≤ C) (h0 : 0 ≤ C) : 0 ≤ cutP left k ∧ cutP left k ≤ C ∧ -100000 ≤ left - cutP left k ∧ left - cutP left k ≤ C := by
  unfold cutP
  by_cases hn : 0 ≤ left
  · obtain ⟨n, rfl⟩ := Int.eq_ofNat_of_zero_le hn
    have e : ((n : Nat) : Int).tdiv (k : Nat) = ((n / k : Nat) : Int) := by
      rw [Int.tdiv_eq_ediv_of_nonneg (by omega)]; rfl
    have := Nat.div_le_self n k
    rw [e]
    generalize n / k = q at this ⊢
    rw [if_neg (by omega)]; omega
  · have e : left.tdiv (k : Nat) ≤ 0 := by
      obtain ⟨n, hn2⟩ := Int.eq_ofNat_of_zero_le (show 0 ≤ -left by omega)
      have : left = -((n : Nat) : Int) := by omega
      rw [this, Int.neg_tdiv, Int.tdiv_eq_ediv_of_nonneg (by omega)]
      have : (0 : Int) ≤ ((n : Nat) : Int) / ((k : Nat) : Int) := Int.ediv_nonneg (by omega) (by omega)
      omega
    split <;> omega
/-! What holds of coins of numbers. -/
structure CoinsOk (V : List En) (n : Nat) : Prop where
  srt : Srt V
  len : V.length ≤ n
  each : ∀ e ∈ V, e.1.s.size = 32 ∧ e.1.i = 0 ∧ 0 ≤ e.2.v ∧ e.2.v ≤ 655350 ∧ e.2.s = lockP ∧ e.2.h = 1
theorem tot_le_len {V : List En} {c : Int} (h : ∀ e ∈ V, e.2.v ≤ c) : tot V ≤ c * (V.length : Nat) := by
  induction V with
  | nil => simp
  | cons e V ih =>
    have h1 := ih (fun d hd => h d (by simp [hd]))
    have h2 := h e (by simp)
    rw [tot_cons, List.length_cons]
    have e1 : c * ((V.length + 1 : Nat) : Int) = c * (V.length : Nat) + c := by push_cast; rw [Int.mul_add, Int.mul_one]
    rw [e1]; omega
theorem CoinsOk.tot {V : List En} {n : Nat} (h : CoinsOk V n) (hn : n ≤ 1000) : 0 ≤ tot V ∧ tot V ≤ 655350 * (n : Nat) := by
  have h1 := tot_le_len (V := V) (c := 655350) (fun e he => (h.each e he).2.2.2.1)
  have h2 := h.len
  exact ⟨Mon.pos fun e he => (h.each e he).2.2.1, by omega⟩
theorem CoinsOk.mon {V : List En} {n : Nat} (h : CoinsOk V n) (hn : n ≤ 1000) : Mon V := ⟨fun e he => (h.each e he).2.2.1, by have := (h.tot hn).2; omega⟩
theorem CoinsOk.nodup {V : List En} {n : Nat} (h : CoinsOk V n) : (V.map (·.1)).Nodup := srt_nodup h.srt
theorem coinsP_ok {vals : List Int} (hv : ∀ a ∈ vals, 0 ≤ a ∧ a ≤ 65535) : ∀ n, CoinsOk (coinsP vals n) n
  | 0 => ⟨List.Pairwise.nil, Nat.le_refl _, fun e he => by cases he⟩
  | n + 1 => by
    have h := coinsP_ok hv n
    obtain ⟨h1, h2, h3⟩ := put_sim (List.Perm.refl (coinsP vals n)) h.srt ⟨idN (300 + n), 0⟩ (coinP (vals.getD n 0))
    have hd : 0 ≤ vals.getD n 0 ∧ vals.getD n 0 ≤ 65535 := by
      rw [List.getD_eq_getElem?_getD]
      cases hg : vals[n]? with
      | none => exact ⟨Int.le_refl _, by decide⟩
      | some a => exact hv a (List.mem_of_getElem? hg)
    refine ⟨h2, Nat.le_trans h3 (by have := h.len; omega), fun e he => ?_⟩
    have he' := h1.symm.subset he
    unfold putMap at he'
    have old := h.each e
    split at he'
    · rcases List.mem_append.1 he' with h5 | h5
      · exact old h5
      · simp only [List.mem_singleton] at h5
        subst h5
        exact ⟨idN_size _, rfl, by show 0 ≤ 10 * _; omega, by show 10 * _ ≤ _; omega, rfl, rfl⟩
    · exact old he'
theorem put_next {V : List En} {n : Nat} (h : CoinsOk V n) (hn : n ≤ 1000) {i : Nat} (hi : i < V.length) : putCode (V.take i) V[i].1 V[i].2 = 0 ∧ putMap (V.take i) V[i].1 V[i].2 = V.take (i + 1) := by
  obtain ⟨e1, e2, e3, e4, e5, e6⟩ := h.each _ (List.getElem_mem hi)
  have hf : formedB V[i].1 V[i].2 = true := by
    unfold formedB
    rw [e1, e6, (goodB_iff _).2 ⟨e3, by omega⟩]; rfl
  have hnone : aget (V.take i) V[i].1 = none := by
    cases hg : aget (V.take i) V[i].1 with
    | none => rfl
    | some c =>
      exfalso
      have hm := aget_mem hg
      obtain ⟨j, hj, e⟩ := List.getElem_of_mem hm
      rw [List.length_take] at hj
      rw [List.getElem_take] at e
      have hd := List.pairwise_iff_getElem.1 h.nodup j i (by simp; omega) (by simpa using hi) (by omega)
      simp only [List.getElem_map] at hd
      exact hd (by rw [e])
  have ht := tot_take_le (h.mon hn) (i + 1)
  have ht0 := tot_take_le (h.mon hn) i
  have he := tot_take hi
  have hT := (h.mon hn).2
  have hz : putCode (V.take i) V[i].1 V[i].2 = 0 := by
    unfold putCode
    rw [hf, hnone, if_pos rfl, if_neg (by simp), if_pos ((goodB_iff _).2 (by omega))]
  refine ⟨hz, ?_⟩
  unfold putMap
  rw [if_pos hz, List.take_succ_eq_append_getElem hi]
end Go.K
end
section
namespace Go.Proofs.YtcnhbkaclgdehaaGreat
open Go Go.K Go.ChangeShapes Go.WideShapes Go.ChangeAt Go.RowKit
set_option maxRecDepth 100000
theorem own : ownKnob Tryz.prog.godebug = none := by kernel_rfl
theorem laidOut : laidOutB Tryz.prog = true := by kernel_rfl
theorem c_u8 : Tryz.prog.cellsOf 5 = 1 := by kernel_rfl
theorem c_u16 : Tryz.prog.cellsOf 38 = 1 := by kernel_rfl
theorem c_bool : Tryz.prog.cellsOf 4 = 1 := by kernel_rfl
theorem c_lu8 : Tryz.prog.cellsOf 37 = 1 := by kernel_rfl
theorem reads_u8 {W : World} {c : List Value} (h : Reads Tryz.prog W 5 c) : ∃ b : UInt8, c = [u8V b] := by
  obtain ⟨n, e, h1, h2⟩ := reads_int Tryz.underlying5 h
  have h1 : 0 ≤ n := h1
  have h2 : n ≤ 255 := h2
  refine ⟨UInt8.ofNat n.toNat, ?_⟩
  have : (UInt8.ofNat n.toNat).toNat = n.toNat := by rw [UInt8.toNat_ofNat']; omega
  unfold u8V
  rw [e, this]
  congr 2; omega
theorem reads_u16 {W : World} {c : List Value} (h : Reads Tryz.prog W 38 c) : ∃ n : Int, c = [.int .u16 n] ∧ 0 ≤ n ∧ n ≤ 65535 := by
  obtain ⟨n, e, h1, h2⟩ := reads_int Tryz.underlying38 h
  exact ⟨n, e, h1, h2⟩
theorem reads_psm {W : World} {c : List Value} (h : Reads Tryz.prog W 40 c) : ∃ z : PSm, psmR.rel [] W c z := by
  obtain ⟨h1, h2⟩ := reads_struct Tryz.underlying40 h
  have l : c.length = 7 := h1.trans (by kernel_rfl)
  match c, l with
  | [c0, c1, c2, c3, c4, c5, c6], _ =>
    have g0 := h2 _ (List.mem_of_getElem? (i := 0) rfl)
    have g1 := h2 _ (List.mem_of_getElem? (i := 1) rfl)
    have g2 := h2 _ (List.mem_of_getElem? (i := 2) rfl)
    have g3 := h2 _ (List.mem_of_getElem? (i := 3) rfl)
    have g4 := h2 _ (List.mem_of_getElem? (i := 4) rfl)
    have g5 := h2 _ (List.mem_of_getElem? (i := 5) rfl)
    have g6 := h2 _ (List.mem_of_getElem? (i := 6) rfl)
    simp only [c_lu8, List.drop_zero, List.drop_succ_cons, List.take_succ_cons, List.take_zero] at g0
    obtain ⟨frm, hf, hfl⟩ := reads_slR u8R Tryz.underlying37 (by kernel_rfl) (fun c hc => by
      obtain ⟨b, e⟩ := reads_u8 hc
      exact ⟨b, by subst e; rfl⟩) g0
    obtain ⟨b1, e1⟩ := reads_u8 g1
    obtain ⟨f, e2, hf1, hf2⟩ := reads_u16 g2
    obtain ⟨b3, e3⟩ := reads_u8 g3
    obtain ⟨b4, e4⟩ := reads_u8 g4
    obtain ⟨o, e5⟩ := reads_bool Tryz.underlying4 g5
    obtain ⟨b6, e6⟩ := reads_u8 g6
    simp only [c_u8, c_u16, c_bool, List.drop_zero, List.drop_succ_cons, List.take_succ_cons, List.take_zero, List.cons.injEq, and_true] at e1 e2 e3 e4 e5 e6
    exact ⟨⟨frm, b1, f, b3, b4, o, b6⟩, c0, by rw [e1, e2, e3, e4, e5, e6]; rfl, hf, hf1, hf2⟩
theorem reads_psms {W : World} {v : Value} (h : Reads Tryz.prog W 23 [v]) : ∃ l, SlR psmR [] W v l ∧ l.length ≤ maxLen :=
  reads_slR psmR Tryz.underlying23 (by kernel_rfl) (fun _ h => reads_psm h) h
theorem reads_u16s {W : World} {v : Value} (h : Reads Tryz.prog W 22 [v]) : ∃ l, SlR u16R [] W v l ∧ l.length ≤ maxLen :=
  reads_slR u16R Tryz.underlying22 (by kernel_rfl) (fun c hc => by
    obtain ⟨n, e, h1, h2⟩ := reads_u16 hc
    exact ⟨n, by subst e; exact ⟨rfl, h1, h2⟩⟩) h
theorem okWide_two {W : World} {base : Nat} {v : Value} (h : Value.okWide Tryz.prog W .any base 79 v) : ∃ c0 c1, v = .agg #[c0, c1] := by
  simp only [Value.okWide, Tryz.underlying79] at h
  obtain ⟨cs, h1, h2, _⟩ := h
  have h2 : cs.size = 2 := h2.trans (by kernel_rfl)
  obtain ⟨l⟩ := cs
  match l, h2 with
  | [c0, c1], _ => exact ⟨c0, c1, h1⟩
theorem reads_two {W : World} {c0 c1 : Value} (h : Reads Tryz.prog W 79 [c0, c1]) : ∃ y0 y1 : Int, c0 = .int .u16 y0 ∧ c1 = .int .u16 y1 ∧ (0 ≤ y0 ∧ y0 ≤ 65535) ∧ 0 ≤ y1 ∧ y1 ≤ 65535 := by
  obtain ⟨H, enc, base, spare, held, fuel, x, hf⟩ := h
  cases fuel with
  | zero => simp [DataW.trod] at hf
  | succ n =>
    rw [DataW.trod_step] at hf
    unfold DataW.trodStep at hf
    simp only [Tryz.underlying79] at hf
    rw [if_pos (show ([c0, c1] : List Value).length = Tryz.prog.cellsOf 79 by kernel_rfl)] at hf
    simp only [Option.map_eq_some_iff] at hf
    obtain ⟨xs, hx, e1⟩ := hf
    rw [show List.range 2 = [0, 1] from rfl, List.mapM_cons, List.mapM_cons, List.mapM_nil] at hx
    simp only [bind, Option.bind_eq_some_iff, pure, Option.some.injEq, c_u16] at hx
    obtain ⟨y0, h0, _, ⟨y1, h1, _, rfl, rfl⟩, rfl⟩ := hx
    obtain ⟨a, ea, ha⟩ := reads_u16 (W := W) (c := [c0]) ⟨H, enc, base, spare, held, n, y0, h0⟩
    obtain ⟨b, eb, hb⟩ := reads_u16 (W := W) (c := [c1]) ⟨H, enc, base, spare, held, n, y1, h1⟩
    simp only [List.cons.injEq, and_true] at ea eb
    exact ⟨a, b, ea, eb, ha, hb⟩
theorem u16_all {M : List Nat} {w : World} {v : Value} {l : List Int} (h : SlR u16R M w v l) : ∀ a ∈ l, 0 ≤ a ∧ a ≤ 65535 := by
  obtain ⟨css, h1, h2, h3⟩ := h
  intro a ha
  obtain ⟨i, hi, rfl⟩ := List.getElem_of_mem ha
  exact (h2.get i (by rw [h2.length]; exact hi) hi).2
end Go.Proofs.YtcnhbkaclgdehaaGreat
end
section
namespace Go.K
open Go Go.Proofs.YtcnhbkaclgdehaaGreat
abbrev zW0 : PSm := ⟨[0], 1, 0, 0, 0, false, 0⟩
abbrev zW1 : PSm := ⟨[0], 1, 500, 0, 0, false, 0⟩
def coinsW : List En := coinsP [500] 1
theorem coinsW_eq : coinsP [500] (min [(500 : Int)].length 8) = coinsW := rfl
theorem wk0 : accE (aget coinsW) [] (makeP coinsW zW0) 5 0 = (11, -1) := by kernel_rfl
theorem wk1 : accE (aget coinsW) [] (makeP coinsW zW1) 5 0 = (0, -1) := by kernel_rfl
theorem wkf : (plainP (aget coinsW) [] (makeP coinsW zW1) 5).1 = 500 := by kernel_rfl
theorem wk1n : accIds (aget coinsW) [] (makeP coinsW zW1) 5 0 = [] ∧ accL (aget coinsW) [] (makeP coinsW zW1) 5 0 = [newE (makeP coinsW zW1) 500] := by
  obtain ⟨h1, -, h3⟩ := acc_new (l := []) List.nodup_nil (show (accE (aget coinsW) [] (makeP coinsW zW1) 5 0).1 = 0 by rw [wk1])
  rw [wkf] at h3
  exact ⟨h1, h3⟩
theorem wk0n : accIds (aget coinsW) [] (makeP coinsW zW0) 5 0 = [] ∧ accL (aget coinsW) [] (makeP coinsW zW0) 5 0 = [] :=
  acc_not (by rw [wk0]; show ¬ (11 : Int) = 0; decide)
theorem coinsW_ok : CoinsOk coinsW 1 := coinsP_ok (vals := [500]) (by intro a ha; simp at ha; subst ha; decide) 1
/-! A view of a pool. -/
theorem flat_len' {V : List En} {h : Int} : ∀ {l : List Ent}, (∀ x ∈ l, x.tx.outs.length ≤ 1000) → (l.flatMap (overX V h)).length ≤ 1000 * l.length
  | [], _ => by simp
  | x :: l, hE => by
    have h1 := flat_len' (V := V) (h := h) (l := l) (fun y hy => hE y (by simp [hy]))
    have h2 := hE x (by simp)
    have h3 : (overX V h x).length ≤ x.tx.outs.length := by
      unfold overX overK
      exact Nat.le_trans (List.length_filter_le _ _) (by simp)
    rw [List.flatMap_cons, List.length_append, List.length_cons]
    omega
theorem ent_outs {x : Ent} (h : EntOk x) : x.tx.outs.length ≤ 1000 := (chk_sm h.check).outs
theorem view_ok {V : List En} {l : List Ent} {n : Nat} {h B : Int} (hc : CoinsOk V n) (hn : n ≤ 1000) (hE : ∀ x ∈ l, EntOk x) (hl : l.length ≤ 1000) (hM : Money V l h B) : (∀ e ∈ overL V l h, 0 ≤ e.2.v ∧ e.2.v ≤ B) ∧ (∀ e ∈ overL V l h, is32 e.1.i) ∧ (overL V l h).length ≤ 1100000 := by
  have hp := overL_pos (m := V) (fun e he => (hc.each e he).2.2.1) hE h
  refine ⟨fun e he => ⟨hp e he, ?_⟩, fun e he => ?_, ?_⟩
  · exact Int.le_trans (Mon.le hp e he) hM.all
  · rcases overL_mem.1 he with h5 | ⟨x, hx, j, hj, rfl, -⟩
    · rw [(hc.each e h5).2.1]; unfold is32; omega
    · have := ent_outs (hE x hx)
      show is32 ((j : Nat) : Int)
      unfold is32; omega
  · have h1 := hc.len
    have h2 := flat_len' (V := V) (h := h) (fun x hx => ent_outs (hE x hx))
    unfold overL
    rw [List.length_append]; omega
/-- The money of a pool behind i transactions. -/
def monB (i : Nat) : Int := ((2 ^ i * 5242800 : Nat) : Int)
theorem monB_succ (i : Nat) : 2 * monB i = monB (i + 1) := by
  unfold monB
  rw [Nat.pow_succ]
  generalize 2 ^ i = q
  omega
theorem monB_le {i : Nat} (h : i ≤ 17) : 0 ≤ monB i ∧ monB i ≤ 1000000000000 := by
  unfold monB
  have h1 : 2 ^ i ≤ 2 ^ 17 := Nat.pow_le_pow_right (by decide) h
  generalize 2 ^ i = q at h1 ⊢
  omega
theorem money0 {V : List En} (hc : CoinsOk V 8) (h : Int) : Money V [] h (monB 0) := by
  refine Money.nil ?_
  have h1 := (hc.tot (by decide)).2
  show tot V ≤ ((2 ^ 0 * 5242800 : Nat) : Int)
  omega
theorem CoinsOk.more {V : List En} {n m : Nat} (h : CoinsOk V n) (hm : n ≤ m) : CoinsOk V m := ⟨h.srt, Nat.le_trans h.len hm, h.each⟩
theorem Money.step {V : List En} {l : List Ent} {t : Tx} {z : PSm} {h rate : Int} {i : Nat} (hM : Money V l h (monB i)) (hc : CoinsOk V 8) (hn : (l.map (·.id)).Nodup) (hE : ∀ x ∈ l, EntOk x) (hl : l.length ≤ 1000) (ht : t = makeP (overL V l h) z) : Money V (accL (aget V) l t h rate) h (monB (i + 1)) := by
  rw [← monB_succ]
  refine hM.acc hc.nodup (fun e he => (hc.each e he).2.2.1) hn hE fun p hp => ?_
  subst ht
  exact (makeP_pts (view_ok hc (by decide) hE hl hM).2.1 z p hp).1
end Go.K
end
section
namespace Go.Proofs.YtcnhbkaclgdehaaGreat
open Go Go.K
attribute [local irreducible] regK codeK retK KOp.wp K.Spec u32 leS vnS str zero32 sha2 encT idT sizeT checkT grantB idN stepR workL reachE findI dropG addG aboveL belowL idsOf feeD sizeD cntS metL confL evL inS inB needI needL feeOf needN needE mayE freshP rulesL fitsL feeP dustI numAt byteAt plainP dropAll accE accIds accL askedF

theorem Gr.low {w : World} {B B' g : Nat} {M : List Nat} {l : List Ent} (h : Gr w B g M l) (hb : B' ≤ B) : Gr w B' g M l := by
  obtain ⟨b1, vo, b2, m, sp, hP, e⟩ := h
  have := hP.lo
  exact ⟨b1, vo, b2, m, sp, ⟨hP.at_, hP.ents, hP.pts, hP.ord.lower hb, hP.inv, hP.nd, by omega, by omega, by omega⟩, e⟩
set_option maxHeartbeats 4000000 in
theorem accept_spec {B g : Nat} {M N : List Nat} {l : List Ent} {cs : List Value} {t : Tx} {v : Value} {f : Pt → Option Cn} (h rate : Int) (w : World) (hG : Gr w B g M l) (hV : ViewR w v f) (ht : txR.rel N w cs t) (hs : t.Sm) (hN : ∀ b ∈ N, b < w.heap.size) (hMN : ∀ b ∈ M, b ∈ N) (hl : l.length ≤ 1000) (hf : ∀ x ∈ l, x.fee ≤ 1000000000000) :
    K.Spec Tryz.prog F.pool_Accept [.pointer (some ⟨g, 0, none⟩), .agg cs.toArray, termV v h rate] w fun r w' => ∃ u e M', r = .tuple #[u, e] ∧ Own strE T.string w.heap.size w' u (accIds f l t h rate) ∧ ErrR w' 1 e (accE f l t h rate).1 (accE f l t h rate).2 ∧ Gr w' B g M' (accL f l t h rate) ∧ Chg M w w' ∧ (∀ b ∈ M', b ∈ M ∨ w.heap.size ≤ b) ∧ (∀ b ∈ blkOf u, b ∉ M') := by
  have ht0 := ht
  have hM : ∀ b ∈ M, b < w.heap.size := fun b hb => hN b (hMN b hb)
  obtain ⟨iv, ov, rfl, hi, ho, hv⟩ := ht
  obtain ⟨vt, vu, rfl⟩ : ∃ vt vu, v = .iface vt vu := by obtain ⟨⟨a, b, e, _⟩, _⟩ := hV; exact ⟨a, b, e⟩
  have fail : ∀ {w' : World} {e : Value} {c a : Int}, Ext w w' → accE f l t h rate = (c, a) → accIds f l t h rate = [] → accL f l t h rate = l → ErrR w' 1 e c a → ∃ u e' M', Value.tuple #[.slice none 0 0, e] = .tuple #[u, e'] ∧ Own strE T.string w.heap.size w' u (accIds f l t h rate) ∧ ErrR w' 1 e' (accE f l t h rate).1 (accE f l t h rate).2 ∧ Gr w' B g M' (accL f l t h rate) ∧ Chg M w w' ∧ (∀ b ∈ M', b ∈ M ∨ w.heap.size ≤ b) ∧ (∀ b ∈ blkOf u, b ∉ M') := fun x e1 e2 e3 he =>
    ⟨_, _, M, rfl, by rw [e2]; exact Own.nil _ _ _, by rw [e1]; exact he, by rw [e3]; exact hG.ext x, x.mono (by simp), fun b hb => .inl hb, fun b hb => by simp [blkOf] at hb⟩
  by_cases h0 : (plainP f l t h).2.1 = 0
  · obtain ⟨hc, hg, hh, hgood⟩ := plain_good h0
    have hgf := (goodB_iff _).1 hgood
    have hz := (sz_of_check hs hc).sizeM
    have e0 : sizeV t = .tuple #[.int .i64 (sizeT t : Nat), .int .i64 0] := by rw [sizeV, if_pos hc]
    generalize hfee : (plainP f l t h).1 = fee at *
    refine s_pool_Accept rfl ?_
    unfold k_pool_Accept
    refine oy ?_
    repeat (first|(refine zD (d := some 4) rfl rfl (fun bt wt xt bt' (rt : Row wt ⟨bt, 0, none⟩ (txCs t iv ov)) hbt0=>?_))|(refine zD (d := some 5) (cs := [.iface vt vu, .int .i64 h, .int .i64 rate]) rfl rfl (fun bs ws xs bs' (rs : Row ws ⟨bs, 0, none⟩ [.iface vt vu, .int .i64 h, .int .i64 rate]) hbs0=>?_))|(refine zC (d := some 21) rfl (plain_spec (M := M) (N := N) (l := l) (f := f) (cs := txCs t iv ov) (t := t) h rate _ (hG.r.ext (by exact fx)) (fun b hb => Nat.lt_of_lt_of_le (hM b hb) (Ext.size (by exact fx))) (hV.ext (by exact fx)) (R.ext ht0 (by exact fx)) hs) ?_; rintro _ w3 ⟨e, rfl, he, x3⟩; obtain ⟨hn1, hn2⟩ := he.nil_iff)|(first|refine go1 ?_|refine zg (fun _ _=>?_)|refine zi (fun _ _=>?_)))
    obtain ⟨rfl, -⟩ := hn1 h0
    rw [hfee]
    clear he hn1 hn2
    repeat (first|(refine zC (d := some 29) rfl (size_spec (M := N) (cs := txCs t iv ov) (t := t) _ (R.ext ht0 (by exact fx)) hs) ?_; rintro _ w4 ⟨rfl, x4⟩; rw [e0])|(refine zC (d := some 35) rfl (asked_spec (.iface vt vu) rfl h rate (sizeT t) (by omega) _) ?_; rintro _ w5 ⟨rfl, x5⟩)|(first|refine go1 ?_|refine zg (fun _ _=>?_)|refine zi (fun _ _=>?_)))
    refine zL (p := fee < askedF rate (sizeT t)) rfl (fun h1 => ?_) (fun h1 => ?_)
    · have e := acc_fee (rate := rate) h0 (by rw [hfee]; exact h1)
      obtain ⟨e2, e3⟩ := acc_err (by decide) e
      repeat (first|refine go1 ?_|refine zg (fun _ _=>?_)|refine zi (fun _ _=>?_))
      exact x_ret rfl (fail (by exact fx) e e2 e3 (ErrR.num _ _ (by decide)))
    repeat (first|(refine zC (d := some 41) rfl (rules_spec (M := M) (N := N) (l := l) (cs := txCs t iv ov) (t := t) fee _ (hG.r.ext (by exact fx)) (fun b hb => Nat.lt_of_lt_of_le (hM b hb) (Ext.size (by exact fx))) (R.ext ht0 (by exact fx)) hs hl hf) ?_; rintro _ w6 ⟨rfl, x6⟩)|(first|refine go1 ?_|refine zg (fun _ _=>?_)|refine zi (fun _ _=>?_)))
    refine zN (p := rulesL l t fee = 0) rfl (fun h2 => ?_) (fun h2 => ?_)
    · have e := acc_rules (rate := rate) h0 (by rw [hfee]; exact h1) (by rw [hfee]; exact h2)
      obtain ⟨e2, e3⟩ := acc_err (by rw [hfee]; exact h2) e
      rw [hfee] at e
      repeat (first|refine go1 ?_|refine zg (fun _ _=>?_)|refine zi (fun _ _=>?_))
      exact x_ret rfl (fail (by exact fx) e e2 e3 (ErrR.num _ _ h2))
    repeat (first|refine go1 ?_|refine zg (fun _ _=>?_)|refine zi (fun _ _=>?_))
    refine zC (d := some 48) rfl (evicted_spec (M := M) (N := N) (l := l) (cs := txCs t iv ov) (t := t) _ (hG.r.ext (by exact fx)) (fun b hb => Nat.lt_of_lt_of_le (hM b hb) (Ext.size (by exact fx))) (R.ext ht0 (by exact fx)) hs.ins hl) ?_
    rintro u w8 ⟨ou8, x7⟩
    have rt8 : Row w8 ⟨bt, 0, none⟩ (txCs t iv ov) := rt.ext (by exact fx)
    have t8 := R.ext ht0 (show Ext w w8 by exact fx)
    have G8 : Gr w8 B g M l := hG.ext (show Ext w w8 by exact fx)
    have hbu : ∀ b ∈ blkOf u, w.heap.size ≤ b := fun b hb => Nat.le_trans (Ext.size (show Ext w w6 by exact fx)) (ou8.base b hb)
    have hbl : ∀ b ∈ blkOf u, b < w8.heap.size := fun b hb => Own.blk_lt ou8 b hb
    have s06 : w.heap.size ≤ w6.heap.size := Ext.size (show Ext w w6 by exact fx)
    have s8 : bt < w8.heap.size := Nat.lt_of_lt_of_le bt'.lt (Ext.size (show Ext wt w8 by exact fx))
    have x08 : Unit → Ext w w8 := fun _ => by exact fx
    have s08 := (x08 ()).size
    clear x3 x4 x5 x6 x7 xs xt rt rs bt' bs'
    have su := ou8.sl
    have hM8 : ∀ b ∈ M, b < w8.heap.size := fun b hb => Nat.lt_of_lt_of_le (hM b hb) s08
    have hid : (idsOf l (evL l t)).length ≤ 1000 := Nat.le_trans (idsOf_length l (evL l t)) hl
    obtain ⟨ids, hids⟩ : ∃ ids, idsOf l (evL l t) = ids := ⟨_, rfl⟩
    rw [hids] at ou8 su hid
    repeat' (first|(refine zg (fun w9 x9 => ?_))|(refine st_both ?_ ?_)|(refine zC (d := some 51) rfl (without_spec (M := M) (l := l) (ids := ids) _ (G8.ext (by exact fx)).r (fun b hb => Nat.lt_of_lt_of_le (hM8 b hb) (Ext.size (by exact fx))) hl (su.ext (by exact fx)) hid) ?_; rintro _ w10 ⟨g1, M1, rfl, g10, x10⟩)|(refine st_joinV (b := .cons ⟨some 53, _, _⟩ _) (fun (p : Nat × List Nat) w' => Ext w8 w' ∧ Gr w' w8.heap.size p.1 p.2 (dropAll l ids)) (fun p => [(0, .pointer (some ⟨g, 0, none⟩)), (4, .pointer (some ⟨bt, 0, none⟩)), (8, .int .i64 fee), (13, u), (51, .pointer (some ⟨p.1, 0, none⟩)), (52, .agg (txCs t iv ov).toArray)]) ?_ ?_)|(rintro ⟨g1, M1⟩ ρ7 w10 ⟨x10, g10⟩; try dsimp only)|(exact ⟨(g1, M1), ⟨rfl, rfl, rfl, rfl, rfl, rfl, trivial⟩, by exact fx, Gr.low g10 (Ext.size x9)⟩)|(first|refine go1 ?_|refine zg (fun _ _=>?_)|refine zi (fun _ _=>?_)))
    have hrest : restL l t = dropAll l ids := by unfold restL; rw [hids]
    dsimp only at g10
    refine zC (d := some 53) rfl (fits_spec (M := M1) (N := N) (l := dropAll l ids) (cs := txCs t iv ov) (t := t) _ g10.r (Gr.lt g10) (R.ext t8 x10) hs (Nat.le_trans (dropAll_len ids l) hl)) ?_
    rintro _ w11 ⟨rfl, x11⟩
    repeat (first|refine go1 ?_|refine zg (fun _ _=>?_)|refine zi (fun _ _=>?_))
    have rt11 : Row w11 ⟨bt, 0, none⟩ (txCs t iv ov) := rt8.ext (by exact fx)
    have x811 : Ext w8 w11 := x10.trans x11
    have t11 := R.ext t8 x811
    have G11 := G8.ext x811
    have ou11 := ou8.ext x811
    have s811 := x811.size
    have x011 : Unit → Ext w w11 := fun _ => (x08 ()).trans x811
    clear x10 x11 x811 g10 rt8 ou8 su
    refine zN (p := fitsL (dropAll l ids) t = 0) rfl (fun h3 => ?_) (fun h3 => ?_)
    · have e := acc_fits (rate := rate) h0 (by rw [hfee]; exact h1) (by rw [hfee]; exact h2) (by rw [hrest]; exact h3)
      rw [hrest] at e
      obtain ⟨e2, e3⟩ := acc_err h3 e
      repeat (first|refine go1 ?_|refine zg (fun _ _=>?_)|refine zi (fun _ _=>?_))
      exact x_ret rfl (fail (x011 ()) e e2 e3 (ErrR.num _ _ h3))
    obtain ⟨e1, e2, e3⟩ := acc_ok (rate := rate) h0 (by rw [hfee]; exact h1) (by rw [hfee]; exact h2) (by rw [hrest]; exact h3)
    rw [hids] at e2
    rw [hrest, hfee] at e3
    have d0 : dropAll l (ids.take 0) = l := by unfold dropAll; rfl
    have huM : ∀ a m c, u = .slice (some a) m c → a.block ∉ M := fun a m c e hb => by
      have h5 := hbu a.block (by rw [e]; simp [blkOf])
      have h6 := hM _ hb
      omega
    repeat (first|(refine st_len (d := some 59) (E := strE) (l := ids) rfl ou11.sl ?_)|(refine c_loopV (fun (p : Nat × List Nat) w' => Chg M w11 w' ∧ p.1 ≤ ids.length ∧ Gr w' B g p.2 (dropAll l (ids.take p.1)) ∧ (∀ b ∈ p.2, b ∈ M ∨ w11.heap.size ≤ b)) (fun p => [(0, .pointer (some ⟨g, 0, none⟩)), (4, .pointer (some ⟨bt, 0, none⟩)), (8, .int .i64 fee), (13, u), (58, u), (59, .int .i64 (ids.length : Nat)), (60, .int .i64 (p.1 : Nat))]) (fun p => ids.length - p.1) (0, M) ⟨rfl, rfl, rfl, rfl, rfl, rfl, rfl, trivial⟩ ⟨Chg.refl _ _, by simp, by rw [d0]; exact G11, fun b hb => .inl hb⟩ ?_; rintro ⟨i, Mi⟩ ρ w12 ⟨c12, hil, g12, m12⟩; simp only at hil g12 m12; dsimp only)|(first|refine go1 ?_|refine zg (fun _ _=>?_)|refine zi (fun _ _=>?_)))
    have hlen : (dropAll l (ids.take i)).length ≤ 1000 := Nat.le_trans (dropAll_len _ l) hl
    have s12 := c12.size
    refine zL (p := ((i : Nat) : Int) < ((ids.length : Nat) : Int)) rfl (fun h => ?_) (fun h => ?_)
    · have hii : i < ids.length := by omega
      have su12 := SlE.chg c12 ou11.sl huM
      repeat' (first|(refine st_elemE (d := some 62) (E := strE) rfl rfl (n := i) (l := ids) su12 rfl hii (fun ad r5 => ?_); have r5 : Row w12 ad [Value.string ids[i]] := r5)|(refine zC (d := some 66) rfl (gdrop_spec (l := dropAll l (ids.take i)) ids[i] _ g12 hlen) ?_; rintro _ w13 ⟨M4, rfl, g13, c13, m13⟩)|(first|refine go1 ?_|refine zg (fun _ _=>?_)|refine zi (fun _ _=>?_)))
      refine ⟨(i + 1, M4), ⟨rfl, rfl, rfl, rfl, rfl, rfl, rfl, trivial⟩, ⟨(c12.trans c13).mono (fun b hb => ?_), hii, by show Gr w13 B g M4 (dropAll l (ids.take (i + 1))); rw [dropAll_succ hii]; exact g13, fun b hb => ?_⟩, by show ids.length - (i + 1) < ids.length - i; omega⟩
      · rcases List.mem_append.1 hb with h5 | h5
        · exact .inl h5
        · exact m12 b h5
      · rcases m13 b hb with h5 | h5
        · exact m12 b h5
        · exact .inr (Nat.le_trans s12 h5)
    · have hei : ids.take i = ids := List.take_of_length_le (by omega)
      rw [hei] at g12 hlen
      have rt12 : Row w12 ⟨bt, 0, none⟩ (txCs t iv ov) := rt11.chg c12 (fun hb => by have : bt < w.heap.size := hM bt hb; omega)
      have t12 : txR.rel (N ++ Mi) w12 (txCs t iv ov) t := R.step txR t11 c12 (fun b hb => .inl (hMN b hb)) (fun b hb => by
        rcases List.mem_append.1 hb with h5 | h5
        · exact .inl h5
        · exact (m12 b h5).imp (hMN b) id)
      have hN12 : ∀ b ∈ N ++ Mi, b < w12.heap.size := fun b hb => by
        rcases List.mem_append.1 hb with h5 | h5
        · have := hN b h5; omega
        · exact Gr.lt g12 b h5
      repeat' (first|(refine zC (d := some 71) rfl (gadd_spec (N := N ++ Mi) (cs := txCs t iv ov) fee _ g12 t12 hs (by unfold is64; omega) hN12 (fun b hb => List.mem_append_right _ hb) hlen) ?_; rintro _ w14 ⟨M7, rfl, g14, c14, m14⟩)|(first|refine go1 ?_|refine zg (fun _ _=>?_)|refine zi (fun _ _=>?_)))
      have hdis : ∀ b ∈ blkOf u, b ∉ Mi := fun b hb hm => by
        rcases m12 b hm with h5 | h5
        · have := hM b h5; have := hbu b hb; omega
        · have := hbl b hb; omega
      have hdis0 : ∀ b ∈ blkOf u, b ∉ M := fun b hb hm => by have := hM b hm; have := hbu b hb; omega
      refine x_ret rfl ⟨u, .nilIface, M7, rfl, ?_, by rw [e1]; exact ErrR.none_ _ _, by rw [e3]; exact g14, ?_, fun b hb => ?_, fun b hb hm => ?_⟩
      · rw [e2]
        exact ((ou11.chg c12 hdis0).chg c14 hdis).lower (by omega)
      · refine (Ext.chg (x011 ()) (c12.trans c14)).mono (fun b hb => ?_)
        rcases List.mem_append.1 hb with h5 | h5
        · exact .inl h5
        · rcases m12 b h5 with h6 | h6
          · exact .inl h6
          · exact .inr (by omega)
      · rcases m14 b hb with h5 | h5
        · rcases m12 b h5 with h6 | h6
          · exact .inl h6
          · exact .inr (by omega)
        · exact .inr (by omega)
      · rcases m14 b hm with h5 | h5
        · exact hdis b hb h5
        · have := hbl b hb; omega
  · obtain ⟨e1, e2, e3⟩ := acc_plain (rate := rate) h0
    refine s_pool_Accept rfl ?_
    unfold k_pool_Accept
    refine oy ?_
    repeat (first|(refine zD (d := some 4) rfl rfl (fun bt wt xt bt' (rt : Row wt ⟨bt, 0, none⟩ (txCs t iv ov)) hbt0=>?_))|(refine zD (d := some 5) (cs := [.iface vt vu, .int .i64 h, .int .i64 rate]) rfl rfl (fun bs ws xs bs' (rs : Row ws ⟨bs, 0, none⟩ [.iface vt vu, .int .i64 h, .int .i64 rate]) hbs0=>?_))|(refine zC (d := some 21) rfl (plain_spec (M := M) (N := N) (l := l) (f := f) (cs := txCs t iv ov) (t := t) h rate _ (hG.r.ext (by exact fx)) (fun b hb => Nat.lt_of_lt_of_le (hM b hb) (Ext.size (by exact fx))) (hV.ext (by exact fx)) (R.ext ht0 (by exact fx)) hs) ?_; rintro _ w3 ⟨e, rfl, he, x3⟩; obtain ⟨hn1, hn2⟩ := he.nil_iff)|(first|refine go1 ?_|refine zg (fun _ _=>?_)|refine zi (fun _ _=>?_)))
    obtain ⟨et, eu, rfl⟩ := hn2 h0
    repeat (first|refine go1 ?_|refine zg (fun _ _=>?_)|refine zi (fun _ _=>?_))
    exact x_ret rfl (fail (by exact fx) e1 e2 e3 (he.ext (by exact fx)))
end Go.Proofs.YtcnhbkaclgdehaaGreat
end
section
namespace Go.Proofs.YtcnhbkaclgdehaaGreat
open Go Go.RowKit Go.Extern.Stop Go.Stop Go.Extern

theorem isTypeOf (v : Value) (w : World) : (Extern.ReflectliteType.typeOf #[.iface 71 v]).run Tryz.prog w = .ok (.iface 161 (.agg #[.pointer (some ⟨3, 71, none⟩)])) w := by kernel_rfl
theorem isMethodComparable (v : Value) (w : World) : (Go.method 381 161 v "Comparable").run Tryz.prog w = .ok (203, v) w := by kernel_rfl
theorem isComparable (w : World) : ((Extern.ReflectliteType.method fun t => do Extern.Rtype.noPackHeld "Comparable" t; (fun a => Value.bool a.comparable) <$> typeInfo t) #[.agg #[.pointer (some ⟨3, 71, none⟩)]]).run Tryz.prog w = .ok (.bool true) w := by kernel_rfl

set_option maxRecDepth 20000 in
theorem is_same (a : Int) (w : World) :
    Calls Tryz.prog 25 #[.iface 71 (.int .i64 a), .iface 71 (.int .i64 a)] w fun e w' => e = .returned (.bool true) ∧ w' = w := by
  have h8 := @run_callFunc_extern Tryz.prog 54 _ Extern.ReflectliteType.typeOf Tryz.func54 (by kernel_rfl) (by kernel_rfl) (by kernel_rfl) (by kernel_rfl)
  have h32 := @run_callFunc_extern Tryz.prog 203 _ (Extern.ReflectliteType.method fun t => do Extern.Rtype.noPackHeld "Comparable" t; pure (.bool (← typeInfo t).comparable)) Tryz.func203 (by kernel_rfl) (by kernel_rfl) (by kernel_rfl) (by kernel_rfl)
  have tT := isTypeOf
  have cT := isComparable
  have mR := isMethodComparable
  have heq := Go.Lib.run_eql_iface_int (P := Tryz.prog) w (t := 43) (tx := 71) (k := .i64) (q := .i64) a a Tryz.underlying43 (by kernel_rfl) Tryz.underlying71
  go_enter Tryz.func25, Tryz.ntmps25
  go_wp2
  refine wp_loop_rounds 1 ?_
  rw [rounds_succ]
  go_wp2
  go_ret
  exact ⟨rfl, rfl⟩
theorem errIs_same (a : Int) (w : World) : K.Spec Tryz.prog 25 [.iface 71 (.int .i64 a), .iface 71 (.int .i64 a)] w fun v w' => v = .bool true ∧ w' = w :=
  Calls.mono (is_same a w) fun _ _ h => ⟨_, h.1, rfl, h.2⟩
end Go.Proofs.YtcnhbkaclgdehaaGreat
end
