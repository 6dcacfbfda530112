/- What comes in for the laws of graphs. Contracts: what hangs on an entry, by the reference. DERIVED: THE SHELF's CONTRACTS AT THIS DUMP, IN PLAIN WORDS (tools/lay-plain.mjs out of 'YtfeifodeaphbjaaGreatShelf2.lean', which tools/lay-shelf.mjs wrote): THE SAME DECLARATIONS UNDER THE SAME NAMES: 'import', 'namespace', 'open', 'def', 'theorem' AND NOTHING ELSE: no command of the shelf's: FOR A HAND-IN. -/
import Derived.Test.YtfeifodeaphbjaaGreatRows
import Derived.ProofKit
import Derived.ShutString
import Derived.ChangeOld
import Derived.Below
import Derived.Shelf.Spec.SlicesGrow
import Derived.Test.YtfeifodeaphbjaaGreatProg
import Derived.Test.YtfeifodeaphbjaaGreatH39
set_option linter.unusedVariables false
set_option linter.unusedSimpArgs false
section
namespace Go.Proofs.YtfeifodeaphbjaaGreat
open Go Go.K Go.ChangeShapes Go.WideShapes Go.ChangeAt Go.RowKit
set_option maxRecDepth 100000
theorem own : ownKnob Tryz.prog.godebug = none := by kernel_rfl
theorem laidOut : laidOutB Tryz.prog = true := by kernel_rfl
theorem c_int : Tryz.prog.cellsOf 3 = 1 := by kernel_rfl
theorem c_u8 : Tryz.prog.cellsOf 5 = 1 := by kernel_rfl
theorem c_u32 : Tryz.prog.cellsOf 23 = 1 := by kernel_rfl
theorem c_string : Tryz.prog.cellsOf 9 = 1 := by kernel_rfl
theorem c_bool : Tryz.prog.cellsOf 4 = 1 := by kernel_rfl
theorem c_point : Tryz.prog.cellsOf 25 = 2 := by kernel_rfl
theorem c_in : Tryz.prog.cellsOf 50 = 4 := by kernel_rfl
theorem c_out : Tryz.prog.cellsOf 58 = 2 := by kernel_rfl
theorem c_tx : Tryz.prog.cellsOf 35 = 4 := by kernel_rfl
theorem c_small : Tryz.prog.cellsOf 31 = 6 := by kernel_rfl
theorem c_lin : Tryz.prog.cellsOf 32 = 1 := by kernel_rfl
theorem c_lout : Tryz.prog.cellsOf 33 = 1 := by kernel_rfl
theorem c_lstring : Tryz.prog.cellsOf 48 = 1 := by kernel_rfl
theorem c_lu8 : Tryz.prog.cellsOf 29 = 1 := by kernel_rfl
theorem reads_u8 {W : World} {c : List Value} (h : Reads Tryz.prog W 5 c) : ∃ b : UInt8, c = [u8V b] := by
  obtain ⟨n, e, h1, h2⟩ := reads_int Tryz.underlying5 h
  have h1 : 0 ≤ n := h1
  have h2 : n ≤ 255 := h2
  refine ⟨UInt8.ofNat n.toNat, ?_⟩
  have : (UInt8.ofNat n.toNat).toNat = n.toNat := by rw [UInt8.toNat_ofNat']; omega
  unfold u8V
  rw [e, this]
  congr 2; omega
theorem reads_i64 {W : World} {c : List Value} (h : Reads Tryz.prog W 3 c) : ∃ n : Int, c = [.int .i64 n] ∧ is64 n := by
  obtain ⟨n, e, h1, h2⟩ := reads_int Tryz.underlying3 h
  have h1 : -9223372036854775808 ≤ n := h1
  have h2 : n ≤ 9223372036854775807 := h2
  exact ⟨n, e, by unfold is64; omega⟩
theorem reads_u32 {W : World} {c : List Value} (h : Reads Tryz.prog W 23 c) : ∃ n : Int, c = [.int .u32 n] ∧ is32 n := by
  obtain ⟨n, e, h1, h2⟩ := reads_int Tryz.underlying23 h
  have h1 : 0 ≤ n := h1
  have h2 : n ≤ 4294967295 := h2
  exact ⟨n, e, by unfold is32; omega⟩
theorem reads_point {W : World} {c : List Value} (h : Reads Tryz.prog W 25 c) : ∃ p : Pt, c = p.cs ∧ is32 p.i := by
  obtain ⟨h1, h2⟩ := reads_struct Tryz.underlying25 h
  have l : c.length = 2 := h1.trans c_point
  match c, l with
  | [c0, c1], _ =>
    have g0 := h2 _ (List.mem_of_getElem? (i := 0) rfl)
    have g1 := h2 _ (List.mem_of_getElem? (i := 1) rfl)
    obtain ⟨s, e0, _⟩ := reads_string Tryz.underlying9 g0
    obtain ⟨i, e1, hi⟩ := reads_u32 g1
    simp only [c_string, c_u32, List.drop_zero, List.drop_succ_cons, List.take_succ_cons, List.take_zero, List.cons.injEq, and_true] at e0 e1
    exact ⟨⟨s, i⟩, by rw [e0, e1]; rfl, hi⟩
theorem reads_ins {W : World} {c : List Value} (h : Reads Tryz.prog W 50 c) : ∃ x : TIn, inR.rel [] W c x ∧ x.wit.length ≤ 9223372036854775807 := by
  obtain ⟨h1, h2⟩ := reads_struct Tryz.underlying50 h
  have l : c.length = 4 := h1.trans c_in
  match c, l with
  | [c0, c1, c2, c3], _ =>
    have g0 := h2 _ (List.mem_of_getElem? (i := 0) rfl)
    have g1 := h2 _ (List.mem_of_getElem? (i := 1) rfl)
    have g2 := h2 _ (List.mem_of_getElem? (i := 2) rfl)
    obtain ⟨p, e0, hp⟩ := reads_point g0
    obtain ⟨q, e1, hq⟩ := reads_u32 g1
    simp only [c_lstring, List.drop_zero, List.drop_succ_cons, List.take_succ_cons, List.take_zero] at g2
    obtain ⟨wl, hw, hwl⟩ := reads_slR strR Tryz.underlying48 (by kernel_rfl) (fun c hc => by
      obtain ⟨s, e, _⟩ := reads_string Tryz.underlying9 hc
      exact ⟨s, by subst e; rfl⟩) g2
    simp only [c_point, c_u32, List.drop_zero, List.drop_succ_cons, List.take_succ_cons, List.take_zero, List.cons.injEq, and_true] at e0 e1
    refine ⟨⟨p, q, wl⟩, ⟨c3, ?_, hw, hp, hq⟩, hwl⟩
    have e : p.cs = [.string p.s, .int .u32 p.i] := rfl
    rw [e] at e0
    simp only [List.cons.injEq, and_true] at e0
    rw [e0.1, e0.2, e1]; rfl
theorem reads_out {W : World} {c : List Value} (h : Reads Tryz.prog W 58 c) : ∃ y : TOut, outR.rel [] W c y := by
  obtain ⟨h1, h2⟩ := reads_struct Tryz.underlying58 h
  have l : c.length = 2 := h1.trans c_out
  match c, l with
  | [c0, c1], _ =>
    have g0 := h2 _ (List.mem_of_getElem? (i := 0) rfl)
    have g1 := h2 _ (List.mem_of_getElem? (i := 1) rfl)
    obtain ⟨v, e0, hv⟩ := reads_i64 g0
    obtain ⟨s, e1, _⟩ := reads_string Tryz.underlying9 g1
    simp only [c_string, c_int, List.drop_zero, List.drop_succ_cons, List.take_succ_cons, List.take_zero, List.cons.injEq, and_true] at e0 e1
    exact ⟨⟨v, s⟩, by rw [e0, e1]; rfl, hv⟩
theorem reads_tx {W : World} {c : List Value} (h : Reads Tryz.prog W 35 c) : ∃ t : Tx, txR.rel [] W c t ∧ t.Raw := by
  obtain ⟨h1, h2⟩ := reads_struct Tryz.underlying35 h
  have l : c.length = 4 := h1.trans c_tx
  match c, l with
  | [c0, c1, c2, c3], _ =>
    have g0 := h2 _ (List.mem_of_getElem? (i := 0) rfl)
    have g1 := h2 _ (List.mem_of_getElem? (i := 1) rfl)
    have g2 := h2 _ (List.mem_of_getElem? (i := 2) rfl)
    have g3 := h2 _ (List.mem_of_getElem? (i := 3) rfl)
    obtain ⟨v, e0, hv⟩ := reads_u32 g0
    obtain ⟨k, e3, hk⟩ := reads_u32 g3
    simp only [c_lin, c_lout, List.drop_zero, List.drop_succ_cons, List.take_succ_cons, List.take_zero] at g1 g2
    obtain ⟨ins, hi, hil⟩ := reads_slR (inR.and fun x => x.wit.length ≤ 9223372036854775807) Tryz.underlying32 c_in (fun c hc => reads_ins hc) g1
    obtain ⟨outs, ho, hol⟩ := reads_slR outR Tryz.underlying33 c_out (fun c hc => reads_out hc) g2
    simp only [c_u32, List.drop_zero, List.drop_succ_cons, List.take_succ_cons, List.take_zero, List.cons.injEq, and_true] at e0 e3
    obtain ⟨hi1, hi2⟩ := SlR.both hi
    exact ⟨⟨v, ins, outs, k⟩, ⟨c1, c2, by rw [e0, e3]; rfl, hi1, ho, hv, hk⟩, hil, hol, hi2⟩
theorem reads_small {W : World} {c : List Value} (h : Reads Tryz.prog W 31 c) : ∃ z : Small, ∃ fv, c = smallCs z fv ∧ SlR u8R [] W fv z.frm ∧ is64 z.fee ∧ z.frm.length ≤ 9223372036854775807 := by
  obtain ⟨h1, h2⟩ := reads_struct Tryz.underlying31 h
  have l : c.length = 6 := h1.trans c_small
  match c, l with
  | [c0, c1, c2, c3, c4, c5], _ =>
    have g0 := h2 _ (List.mem_of_getElem? (i := 0) rfl)
    have g1 := h2 _ (List.mem_of_getElem? (i := 1) rfl)
    have g2 := h2 _ (List.mem_of_getElem? (i := 2) rfl)
    have g3 := h2 _ (List.mem_of_getElem? (i := 3) rfl)
    have g4 := h2 _ (List.mem_of_getElem? (i := 4) rfl)
    have g5 := h2 _ (List.mem_of_getElem? (i := 5) rfl)
    simp only [c_lu8, List.drop_zero, List.drop_succ_cons, List.take_succ_cons, List.take_zero] at g0
    obtain ⟨frm, hf, hfl⟩ := reads_slR u8R Tryz.underlying29 (by kernel_rfl) (fun c hc => by
      obtain ⟨b, e⟩ := reads_u8 hc
      exact ⟨b, by subst e; rfl⟩) g0
    obtain ⟨b1, e1⟩ := reads_u8 g1
    obtain ⟨b2, e2⟩ := reads_u8 g2
    obtain ⟨f, e3, hfe⟩ := reads_i64 g3
    obtain ⟨b4, e4⟩ := reads_u8 g4
    obtain ⟨b5, e5⟩ := reads_u8 g5
    simp only [c_u8, c_int, List.drop_zero, List.drop_succ_cons, List.take_succ_cons, List.take_zero, List.cons.injEq, and_true] at e1 e2 e3 e4 e5
    exact ⟨⟨frm, b1, b2, f, b4, b5⟩, c0, by rw [e1, e2, e3, e4, e5]; rfl, hf, hfe, hfl⟩
theorem reads_act {W : World} {c : List Value} (h : Reads Tryz.prog W 37 c) : ∃ a : ActG, actR.rel [] W c a := by
  obtain ⟨h1, h2⟩ := reads_struct Tryz.underlying37 h
  have l : c.length = 13 := h1.trans (by kernel_rfl)
  match c, l with
  | [c0, c1, c2, c3, c4, c5, c6, c7, c8, c9, c10, c11, c12], _ =>
    have g0 := h2 _ (List.mem_of_getElem? (i := 0) rfl)
    have g1 := h2 _ (List.mem_of_getElem? (i := 1) rfl)
    have g2 := h2 _ (List.mem_of_getElem? (i := 2) rfl)
    have g3 := h2 _ (List.mem_of_getElem? (i := 3) rfl)
    have g4 := h2 _ (List.mem_of_getElem? (i := 4) rfl)
    obtain ⟨b0, e0⟩ := reads_u8 g0
    obtain ⟨b1, e1⟩ := reads_u8 g1
    obtain ⟨z, fv, e2, hz1, hz2, hz3⟩ := reads_small g2
    obtain ⟨t, ⟨iv, ov, e3, ht1, ht2, ht3, ht4⟩, hraw⟩ := reads_tx g3
    obtain ⟨o, e4⟩ := reads_bool Tryz.underlying4 g4
    simp only [c_u8, c_small, c_tx, c_bool, List.drop_zero, List.drop_succ_cons, List.take_succ_cons, List.take_zero, List.cons.injEq, and_true] at e0 e1 e2 e3 e4
    simp only [smallCs, txCs, List.cons.injEq, and_true] at e2 e3
    obtain ⟨rfl, rfl, rfl, rfl, rfl, rfl⟩ := e2
    obtain ⟨rfl, rfl, rfl, rfl⟩ := e3
    exact ⟨⟨b0, b1, z, t, o⟩, c2, c9, c10, by rw [e0, e1, e4]; rfl, hz1, ht1, ht2, hz2, ht3, ht4, hraw, hz3⟩
theorem reads_acts {W : World} {v : Value} (h : Reads Tryz.prog W 22 [v]) : ∃ l, SlR actR [] W v l ∧ l.length ≤ maxLen :=
  reads_slR actR Tryz.underlying22 (by kernel_rfl) (fun _ h => reads_act h) h
end Go.Proofs.YtfeifodeaphbjaaGreat
end
section
namespace Go.Proofs.YtfeifodeaphbjaaGreat
open Go Go.K
attribute [local irreducible] regK codeK retK KOp.wp K.Spec u32 leS vnS str zero32 sha2 encT idT sizeT checkT grantB idN hangs stepR findI

abbrev bBase (l : List Ent) (id : ByteArray) (i : Nat) : Bool := decide ((i : Int) = findI l id)
abbrev bEdge (l : List Ent) (k i : Nat) : Bool := hangE l i k
theorem stepR_none {base : Nat → Bool} {edge : Nat → Nat → Bool} {n : Nat} (h : ∀ i, i < n → base i = false) : ∀ (r i : Nat), i < n → stepR base edge n r i = false
  | 0, i, _ => by unfold stepR; rfl
  | r + 1, i, hi => by
    rw [← Bool.not_eq_true, stepR_succ]
    rintro (h1 | ⟨k, h1, h2, h3⟩)
    · rw [h i hi] at h1; cases h1
    · rw [stepR_none h r k h1] at h2; cases h2
set_option maxHeartbeats 2000000 in
theorem below_spec {M : List Nat} {v : Value} {l : List Ent} (id : ByteArray) (w : World) (hl : SlR entR M w v l) (hn : l.length ≤ 1000) (hE : ∀ x ∈ l, x.tx.Sm) : K.Spec Tryz.prog F.kedgeref14_Below [v, .string id] w fun r w' => SlE boolE w' r (belowL l id) ∧ Ext w w' ∧ ∀ b ∈ blkOf r, w.heap.size ≤ b := by
  have hqe : ∀ x ∈ l, x.tx.ins.length ≤ 1000 := fun x hx => (hE x hx).ins
  have hf1 := findI_lt (l := l) (id := id)
  refine s_kedgeref14_Below rfl ?_
  unfold k_kedgeref14_Below
  refine ox ?_
  repeat' (first|(first|refine go1 ?_|refine zg (fun _ _=>?_)|refine zi (fun _ _=>?_))|refine zL rfl (fun h => ?_) (fun h => ?_)|(refine zG (E := entR) (M := M) (l := l) rfl (SlR.ext hl (by exact fx)) ?_)|(refine st_mkBool rfl rfl (by omega) (fun b w2 x2 a2 hb2 => ?_))|(refine zC rfl (find_spec (M := M) (l := l) id _ (by exact fx) (by omega)) ?_; rintro _ w3 ⟨rfl, hw3⟩; subst hw3))
  · have hfn : ∀ i, i < l.length → bBase l id i = false := fun i hi => decide_eq_false (by omega)
    have e : belowL l id = List.replicate l.length false := by
      unfold belowL reachL
      refine List.ext_getElem (by simp) fun i h1 h2 => ?_
      simp only [List.getElem_map, List.getElem_range, List.getElem_replicate]
      exact stepR_none hfn _ _ (by simpa using h1)
    rw [e]
    exact x_ret rfl ⟨AtB.sl a2 (by simp), by exact fx, by intro y hy; have hy : y ∈ [b] := hy; simp at hy; omega⟩
  · obtain ⟨n0, hn0⟩ : ∃ n0 : Nat, findI l id = n0 := ⟨(findI l id).toNat, by omega⟩
    have hnl : n0 < l.length := by omega
    rw [hn0]
    refine st_index rfl rfl (by omega) ?_
    refine st_storeB (m := List.replicate l.length false) (o := n0) (v := true) rfl rfl a2 (by simpa using hnl) (fun w4 c4 a4 => ?_)
    have x4 : Ext w w4 := (x2.chg c4).mono (by intro y hy; simp at hy; right; omega)
    have hm0 : Marks (bBase l id) (bEdge l) l.length ((List.replicate l.length false).set n0 true) := ⟨by simp, fun i hi hm => by
      rw [List.getElem_set] at hm
      split at hm
      · rename_i e; subst e
        exact stepR_base hnl (decide_eq_true hn0.symm)
      · simp at hm⟩
    have hs0 : has ((List.replicate l.length false).set n0 true) n0 := by
      unfold has; rw [List.getElem?_set_self (by simpa using hnl)]
    clear a2 x2 c4
    generalize (List.replicate l.length false).set n0 true = m0 at a4 hm0 hs0
    repeat' (first|(first|refine go1 ?_|refine zg (fun _ _=>?_)|refine zi (fun _ _=>?_))|refine zL rfl (fun h => ?_) (fun h => ?_)|refine zK (d := some 58) rfl (fun hmi => ?_) (fun hmi => ?_)|refine zK (d := some 63) rfl (fun hmk => ?_) (fun hmk => ?_)|(refine zG (E := entR) (M := M) (l := l) rfl (SlR.ext hl (by exact fx)) ?_)|(refine c_loopV (fun (p : Nat × List Bool) w' => Ext w w' ∧ p.1 ≤ l.length + 1 ∧ AtB w' b p.2 ∧ has p.2 n0 ∧ RInv (bBase l id) (bEdge l) l.length p.1 0 p.2) (fun p => [(0, v), (5, .slice (some ⟨b, 0, none⟩) l.length l.length), (7, .int .i64 p.1)]) (fun p => l.length + 1 - p.1) (0, m0) ⟨rfl, rfl, rfl, trivial⟩ ⟨x4, by simp, a4, hs0, RInv.zero hm0⟩ ?_; rintro ⟨r, m⟩ ρ w3 ⟨x3, hr, a3, hs3, hI⟩; simp only at hr a3 hs3 hI; dsimp only)|(refine c_loopV (fun (p : Nat × List Bool) w' => Ext w w' ∧ p.1 ≤ l.length ∧ AtB w' b p.2 ∧ has p.2 n0 ∧ RInv (bBase l id) (bEdge l) l.length r p.1 p.2) (fun p => [(0, v), (5, .slice (some ⟨b, 0, none⟩) l.length l.length), (7, .int .i64 r), (8, .int .i64 p.1)]) (fun p => l.length - p.1) (0, m) ⟨rfl, rfl, rfl, rfl, trivial⟩ ⟨by exact fx, by simp, by focus (repeat (first | assumption | (apply At.ext; assumption))), hs3, hI⟩ ?_; clear a3 hI x3 hs3; clear m; rintro ⟨i, m⟩ ρ4 w5 ⟨x5, hi, a5, hs5, hI⟩; simp only at hi a5 hs5 hI; dsimp only)|(have hil : i < l.length := (by omega); refine c_loopV (fun (p : Nat × List Bool) w' => Ext w w' ∧ p.1 ≤ l.length ∧ AtB w' b p.2 ∧ has p.2 n0 ∧ RInv (bBase l id) (bEdge l) l.length r i p.2 ∧ ∀ k, k < p.1 → stepR (bBase l id) (bEdge l) l.length r k = true → hangE l i k = true → has p.2 i) (fun p => [(0, v), (5, .slice (some ⟨b, 0, none⟩) l.length l.length), (7, .int .i64 r), (8, .int .i64 i), (9, .int .i64 p.1)]) (fun p => l.length - p.1) (0, m) ⟨rfl, rfl, rfl, rfl, rfl, trivial⟩ ⟨by exact fx, by simp, a5, hs5, hI, fun k hk => absurd hk (by simp)⟩ ?_; rintro ⟨k, m7⟩ ρ7 w7 ⟨x7, hk, a7, hs7, hK, hE7⟩; simp only at hk a7 hs7 hK hE7; dsimp only; have hml7 := hK.mks.len)|(refine st_elemR (d := some 43) (E := entR) (M := M) rfl rfl (n := i) (l := l) (SlR.ext hl (by exact fx)) rfl hil (fun ad cs r5 he => ?_); obtain ⟨iv2, ov2, rfl, g1, g2, g3⟩ := he)|(refine st_elemR (d := some 48) (E := entR) (M := M) rfl rfl (n := k) (l := l) (SlR.ext hl (by exact fx)) rfl (by omega) (fun ad cs r8 he => ?_); have hkl : k < l.length := (by omega))|(refine st_lN0 (d := some 49) (n := 7) (l := cs) rfl r8 (by rw [entR.len he]; exact Nat.le_refl _) (List.take_of_length_le (by rw [entR.len he]; exact Nat.le_refl _)) ?_)|(refine zC rfl (hangs_spec (M := M) (cs := txCs l[i].tx iv2 ov2) (t := l[i].tx) (x := l[k]) _ ⟨iv2, ov2, rfl, by exact fx, by exact fx, g3.1, g3.2.1⟩ he (by have := hqe _ (List.getElem_mem hil); omega)) ?_; rintro _ w8 ⟨rfl, x8⟩)|(refine st_elemE (d := some 55) (E := boolE) rfl rfl (n := i) (l := m7) (AtB.sl (by focus (repeat (first | assumption | (apply At.ext; assumption)))) hml7.symm) rfl (by omega) (fun ad r6 => ?_))|(refine st_elemE (d := some 60) (E := boolE) rfl rfl (n := k) (l := m7) (AtB.sl (by focus (repeat (first | assumption | (apply At.ext; assumption)))) hml7.symm) rfl (by omega) (fun ad r6 => ?_))|(refine st_index (d := some 66) rfl rfl (by omega) ?_)|(refine st_storeB (m := m7) (o := i) (v := (m7[i]'(by omega) || (m7[k]'(by omega) && hangs l[i].tx l[k]))) rfl (congrArg Value.bool (by first | (rw [hmi]; rfl) | (rw [hmi, hmk]; rfl) | (rw [hmi, hmk]; simp))) (by focus (repeat (first | assumption | (apply At.ext; assumption)))) (by omega) (fun w9 c9 a9 => ?_)))
    all_goals first
      | (have hx7 : Unit → Ext w w9 := fun _ => (Ext.chg (w := w) (by exact fx) c9).mono (by intro y hy; simp at hy; right; omega)
         have he : hangE l i k = hangs l[i].tx l[k] := by rw [hangE, entD_get hkl, entD_get hil]
         have hx : (m7[k] && hangs l[i].tx l[k]) = true → stepR (bBase l id) (bEdge l) l.length l.length i = true := fun hh => by
           rw [Bool.and_eq_true] at hh
           exact stepR_closed hil hkl (hK.mks.sound k (by omega) hh.1) (by rw [← he] at hh; exact hh.2)
         exact ⟨(k + 1, _), ⟨rfl, rfl, rfl, rfl, rfl, trivial⟩, ⟨hx7 (), by simp; omega, a9, has_set (by omega) hs7, hK.set (by omega) hx, fun q hq hs2 hh => by
           by_cases e : q = k
           · subst e
             exact has_new (by omega) (by rw [Bool.and_eq_true]; exact ⟨has_get (hK.all q hkl hs2) (by omega), by rw [← he]; exact hh⟩)
           · exact has_set (by omega) (hE7 q (by simp at hq; omega) hs2 hh)⟩, by simp; omega⟩)
      | exact ⟨(i + 1, m7), ⟨rfl, rfl, rfl, rfl, trivial⟩, ⟨by exact fx, by simp; omega, by focus (repeat (first | assumption | (apply At.ext; assumption))), hs7, hK.next (fun hb => by have : i = n0 := (by have := of_decide_eq_true hb; omega); rw [this]; exact hs7) (fun q hq => hE7 q (by omega))⟩, by simp; omega⟩
      | exact ⟨(r + 1, m), ⟨rfl, rfl, rfl, trivial⟩, ⟨by exact fx, by simp; omega, by focus (repeat (first | assumption | (apply At.ext; assumption))), hs5, hI.round (by omega)⟩, by simp; omega⟩
      | (have hd := hI.mks.done (fun q hq hs2 => hI.all q hq (stepR_le hs2 (by omega)))
         subst hd
         exact x_ret rfl ⟨AtB.sl (by focus (repeat (first | assumption | (apply At.ext; assumption)))) (reachL_length _ _ _).symm, by exact fx, by intro y hy; have hy : y ∈ [b] := hy; simp at hy; omega⟩)
      | trace_state
end Go.Proofs.YtfeifodeaphbjaaGreat
end
section
namespace Go.Proofs
open Go.Shelf
def Tryz.growS_ren : Go.Shelf.Ren := ⟨fun | 4 => 93 | n => n, fun | 22 => 48 | 25 => 9 | 3 => 3 | 4 => 4 | 9 => 9 | 20 => 20 | 0 => 0 | n => n, fun | n => n⟩
theorem Tryz.growS : Go.Proofs.Lays8.n4 Tryz.prog Tryz.growS_ren := {
  mixed := by kernel_rfl
  f4 := ⟨Tryz.f93.name, by decide, Tryz.func93.trans (congrArg some (by kernel_rfl))⟩
  t0 := Tryz.underlying0
  a0 := Tryz.isAgg0
  z0 := Tryz.sizeOf0
  v0 := Tryz.zeroValue0
  t3 := Tryz.underlying3
  a3 := Tryz.isAgg3
  z3 := Tryz.sizeOf3
  v3 := Tryz.zeroValue3
  t4 := Tryz.underlying4
  a4 := Tryz.isAgg4
  z4 := Tryz.sizeOf4
  v4 := Tryz.zeroValue4
  t9 := Tryz.underlying9
  a9 := Tryz.isAgg9
  z9 := Tryz.sizeOf9
  v9 := Tryz.zeroValue9
  t20 := Tryz.underlying20
  a20 := Tryz.isAgg20
  z20 := Tryz.sizeOf20
  v20 := Tryz.zeroValue20
  t22 := Tryz.underlying48
  a22 := Tryz.isAgg48
  z22 := Tryz.sizeOf48
  v22 := Tryz.zeroValue48 }
end Go.Proofs
end
