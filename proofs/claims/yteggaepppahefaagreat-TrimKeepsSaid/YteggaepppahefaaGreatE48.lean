/- Contracts: what the document fixes of trimming. The walk of TrimScores. -/
import Derived.Test.YteggaepppahefaaGreatE46
import Derived.Test.YteggaepppahefaaGreatE47
set_option linter.unusedVariables false
set_option linter.unusedSimpArgs false
section
namespace Go.Proofs.YteggaepppahefaaGreat
open Go Go.K
theorem makeN_one (n mark : UInt8) (f : Int) : makeN ⟨[n], 0, 0, f, mark, 0⟩ = oneM (idL (n.toNat % 16)) mark.toNat := by
  have hp : pI ⟨[n], 0, 0, f, mark, 0⟩ 0 = 0 := pI_zero rfl
  unfold makeN oneM
  have e1 : insN ⟨[n], 0, 0, f, mark, 0⟩ (min [n].length 4) = [⟨⟨str (idL (n.toNat % 16)), 0⟩, 4294967293, []⟩] := by
    show insN _ 1 = _
    unfold insN
    show [(⟨⟨idN (n.toNat % 16), pI ⟨[n], 0, 0, f, mark, 0⟩ 0⟩, 4294967293, []⟩ : TIn)] = _
    rw [hp, idN_L]
  rw [e1]
  rfl
attribute [local irreducible] regK codeK retK KOp.wp K.Spec u32 leS vnS str zero32 sha2 encT idT sizeT checkT grantB idN stepR workL reachE findI dropG addG trimL oneM idL
attribute [local irreducible] makeN eA eB wS
abbrev zS200 : Small := ⟨[200], 0, 0, 0, 0, 0⟩
abbrev zS201 : Small := ⟨[201], 0, 0, 0, 0, 0⟩
set_option maxHeartbeats 4000000 in
theorem wakes19_spec (w : World) : K.Spec Tryz.prog F.kedgelaw19_wakes [] w fun r w' => r = .bool true ∧ Ext w w' := by
  have hg5 : goodB 500 = true := by rw [goodB_iff]; omega
  have hg4 : goodB 400 = true := by rw [goodB_iff]; omega
  refine s_kedgelaw19_wakes rfl ?_
  unfold k_kedgelaw19_wakes
  refine ox ?_
  repeat' (first|(first|refine go1 ?_|refine zg (fun _ _=>?_)|refine zi (fun _ _=>?_))|(refine zC rfl (new_spec _) ?_; rintro _ w1 ⟨g, M, rfl, G1, x1⟩; have hM1 := G1.lt; have hB1 := G1.base)|(refine zI (d := some 12) (cs := [.int .u8 200]) rfl (fun bz wz xz az hbz => ?_)))
  have hM1z : ∀ b ∈ M, b < wz.heap.size := fun b hb => Nat.lt_of_lt_of_le (hM1 b hb) xz.size
  refine zC rfl (make_exact (M := M) (l := []) (cs := smallCs zS200 (.slice (some ⟨bz, 0, none⟩) 1 1)) (z := zS200) _ (SlR.nil _ _) ⟨_, rfl, SlE.toR (F := u8E) (SlE.new (E := u8E) (l := [200]) az rfl (Nat.le_refl _)) (by intro b hb hm; simp [blkOf] at hb; subst hb; have := hM1 _ hm; omega), by show is64 0; exact is64_0⟩ (by simp) (by decide) (by simp) hM1z) ?_
  rintro _ w3 ⟨ds, t, rfl, ho, hm, ht, x3⟩
  have ht := ht rfl
  rw [makeN_one] at ht
  obtain ⟨hc, hgr, hol⟩ := made_one hm rfl rfl rfl
  have hsm := hm.sm
  have hM3 : ∀ b ∈ M, b < w3.heap.size := fun b hb => Nat.lt_of_lt_of_le (hM1z b hb) x3.size
  have t3 : txR.rel M w3 ds t := txO.rel ho hM1z
  have e1 := ho.one
  obtain ⟨iv, ov, rfl, -⟩ := ho
  refine zE (d' := 2) (fun _=>rfl) rfl rfl e1 (fun b2 w4 x4 a4 r4 hb4=>?_)
  have x14 : Ext w1 w4 := (xz.trans x3).trans x4
  have G4 := G1.ext x14
  have t4 : txR.rel M w4 (txCs t iv ov) t := R.ext t3 x4
  have hM4 : ∀ b ∈ M, b < w4.heap.size := fun b hb => Nat.lt_of_lt_of_le (hM3 b hb) x4.size
  have hb2 : b2 ∉ M := fun h => by have := hM3 b2 h; omega
  have x04 : Ext w w4 := x1.trans x14
  have l4 := a4.lt
  clear az t3 xz x3 x4 x14 hM3 hM1z
  repeat' (first|(first|refine go1 ?_|refine zg (fun _ _=>?_)|refine zi (fun _ _=>?_))|(refine zI (d := some 15) (cs := [.int .u8 201]) rfl (fun bz wz xz az hbz => ?_)))
  have hM4z : ∀ b ∈ M, b < wz.heap.size := fun b hb => Nat.lt_of_lt_of_le (hM4 b hb) xz.size
  refine zC rfl (make_exact (M := M) (l := []) (cs := smallCs zS201 (.slice (some ⟨bz, 0, none⟩) 1 1)) (z := zS201) _ (SlR.nil _ _) ⟨_, rfl, SlE.toR (F := u8E) (SlE.new (E := u8E) (l := [201]) az rfl (Nat.le_refl _)) (by intro b hb hm; simp [blkOf] at hb; subst hb; have := hM4 _ hm; omega), by show is64 0; exact is64_0⟩ (by simp) (by decide) (by simp) hM4z) ?_
  rintro _ w5 ⟨ds, u, rfl, ho, hmu, hu, x5⟩
  have hu := hu rfl
  rw [makeN_one] at hu
  obtain ⟨hcu, hgru, holu⟩ := made_one hmu rfl rfl rfl
  have hsmu := hmu.sm
  have hM5 : ∀ b ∈ M, b < w5.heap.size := fun b hb => Nat.lt_of_lt_of_le (hM4z b hb) x5.size
  have t5 : txR.rel M w5 ds u := txO.rel ho hM4z
  have e1 := ho.one
  obtain ⟨iv2, ov2, rfl, -⟩ := ho
  refine zE (d' := 3) (fun _=>rfl) rfl rfl e1 (fun b3 w6 x6 a6 r6 hb6=>?_)
  have x46 : Ext w4 w6 := (xz.trans x5).trans x6
  have G6 := G4.ext x46
  have t6 : txR.rel M w6 (txCs t iv ov) t := R.ext t4 x46
  have u6 : txR.rel M w6 (txCs u iv2 ov2) u := R.ext t5 x6
  have hM6 : ∀ b ∈ M, b < w6.heap.size := fun b hb => Nat.lt_of_lt_of_le (hM5 b hb) x6.size
  have hb3 : b3 ∉ M := fun h => by have := hM5 b3 h; omega
  have x06 : Ext w w6 := x04.trans x46
  have l6 := a6.lt
  have a46 := a4.ext x46
  have r46 : Row w6 ⟨b2, 0, none⟩ (txCs t iv ov) := Row.of_at a46
  have hb23 : b2 < w6.heap.size := Nat.lt_of_lt_of_le l4 x46.size
  have hn23 : b2 ≠ b3 := fun h => by have := (xz.trans x5).size; omega
  clear az t5 xz x5 x6 x46 hM5 hM4z G4 t4 hM4 x04 a4 r4
  have ht : t = oneM (idL 8) 0 := ht
  have hu : u = oneM (idL 9) 0 := hu
  have hA : addG [] t 500 = ([eA 500], 0) := by rw [ht]; exact add_A (by rw [← ht]; exact hc) (by rw [← ht]; exact hgr) hg5
  have hB : addG [eA 500] u 400 = ([eA 500, eB 400], 0) := by rw [hu]; exact add_B (by rw [← hu]; exact hcu) (by rw [← hu]; exact hgru) hg4
  have hidB : (eB 400).id = str r90 := by unfold eB; rfl
  have h64 : is64 500 := by unfold is64; omega
  have h64' : is64 400 := by unfold is64; omega
  repeat' (first|(refine st_joinV (b := .cons ⟨some 23, _, _⟩ _) (fun (M7 : List Nat) w' => Gr w' w.heap.size g M7 [eA 500] ∧ Ext w w' ∧ txR.rel M7 w' (txCs u iv2 ov2) u) (fun M7 => [(1, .pointer (some ⟨g, 0, none⟩)), (20, .int .i64 0), (21, .pointer (some ⟨g, 0, none⟩)), (22, .agg (txCs u iv2 ov2).toArray)]) ?_ ?_)|(rintro M7 ρ7 w7 ⟨G7, x07, u7⟩; try dsimp only)|(exact ⟨M7, ⟨rfl, rfl, rfl, rfl, trivial⟩, G7, x07, u7⟩)|(first|refine go1 ?_|refine zg (fun _ _=>?_)|refine zi (fun _ _=>?_))|(refine st_both ?_ ?_)|(refine zC (d := some 20) rfl (gadd_spec (M := M) (N := M) (cs := txCs t iv ov) (t := t) 500 _ (G6.ext (by exact fx)) (R.ext t6 (by exact fx)) hsm h64 (fun b hb => Nat.lt_of_lt_of_le (hM6 b hb) (Ext.size (by exact fx))) (fun _ h => h) (by simp)) ?_; rintro _ w7 ⟨M7, rfl, G7, c7, hb7⟩; rw [hA] at G7; rw [show (addG [] t 500).2 = 0 by rw [hA]]; have x07 : Ext w w7 := (Ext.chg (Ext.trans x06 (by exact fx)) c7).mono (fun b hb => .inr (hB1 b hb)); have u7 : txR.rel M7 w7 (txCs u iv2 ov2) u := txR.step (R.ext u6 (by exact fx)) c7 (fun b hb => .inl hb) hb7; have r67 : Row w7 ⟨b3, 0, none⟩ (txCs u iv2 ov2) := Row.of_at (At.chg c7 (At.ext (by exact fx) a6) hb3))|(refine zC (d := some 23) rfl (gadd_spec (M := M7) (N := M7) (l := [eA 500]) (cs := txCs u iv2 ov2) (t := u) 400 _ G7 u7 hsmu h64' G7.lt (fun _ h => h) (by simp)) ?_; have hB7 := G7.base; rintro _ w8 ⟨M8, rfl, G8, c8, hb8⟩; rw [hB] at G8; rw [show (addG [eA 500] u 400).2 = 0 by rw [hB]]; have x08 : Ext w w8 := (x07.chg c8).mono (fun b hb => .inr (hB7 b hb)); have hM8 := G8.lt; have hB8 := G8.base))
  clear G6 t6 u6 hM6 x06 a46 r46 a6 r6 G7 u7 x07 c8
  have G8 : Gr w8 w.heap.size g M8 [eA 500, eB 400] := G8
  have hMx : ∀ {w'}, Ext w8 w' → ∀ b ∈ M8, b < w'.heap.size := fun x b hb => Nat.lt_of_lt_of_le (hM8 b hb) x.size
  repeat' (first|(first|refine go1 ?_|refine zg (fun _ _=>?_)|refine zi (fun _ _=>?_))|(refine zC (d := some 32) rfl (all_spec (M := M8) (l := [eA 500, eB 400]) _ (G8.r.ext (by exact fx)) (hMx (by exact fx)) (by simp)) ?_; rintro va w9 ⟨oa, x9⟩; have sa : SlR entR M8 w9 va [eA 500, eB 400] := oa.slB (hMx (by exact fx)))|(refine zG (d := some 33) (E := entR) (M := M8) (l := [eA 500, eB 400]) rfl (SlR.ext sa (by exact fx)) ?_)|(refine zC (d := some 37) rfl (all_spec (M := M8) (l := [eA 500, eB 400]) _ (G8.r.ext (by exact fx)) (hMx (by exact fx)) (by simp)) ?_; rintro vb w10 ⟨ob, x10⟩; have sb : SlR entR M8 w10 vb [eA 500, eB 400] := ob.slB (hMx (by exact fx)))|(refine st_elemR (d := some 38) (E := entR) (M := M8) (kd := .i64) rfl rfl (n := 1) (l := [eA 500, eB 400]) (SlR.ext sb (by exact fx)) rfl (by simp) (fun ad cs r4 he => ?_); obtain ⟨iv3, ov3, rfl, -⟩ := he; have r4 : Row _ ad (entCs (eB 400) iv3 ov3) := r4)|(refine zC (d := some 43) rfl (worst_spec (M := M8) (l := [eA 500, eB 400]) _ (G8.r.ext (by exact fx)) (hMx (by exact fx)) (by simp)) ?_; rintro _ w11 ⟨rfl, x11⟩; rw [show wS [eA 500, eB 400] [eA 500, eB 400].length = str r90 from worst_two, show decide (0 < [eA 500, eB 400].length) = true from rfl, hidB]))
  have G11 : Gr w11 w.heap.size g M8 [eA 500, eB 400] := G8.ext (by exact fx)
  have x011 : Ext w w11 := by exact fx
  refine zC (d := some 48) rfl (trim_spec (U := []) (M := M8) (l := [eA 500, eB 400]) 100 _ (GrU.of G11) (by simp) (by simp)) ?_
  rintro _ w12 ⟨M9, v9, rfl, G9, o9, c9, hb9, hd9⟩
  rw [trim_two] at G9 o9
  rw [trim_two]
  have G9 : Gr w12 w.heap.size g M9 [eA 500] := G9.gr
  have s9 : SlE strE w12 v9 [str r90] := o9.sl
  have x012 : Ext w w12 := (x011.chg c9).mono (fun b hb => .inr (hB8 b hb))
  have hM9 := G9.lt
  clear G8 G11 hMx r4 x10 x11 x9 x011 c9 sa sb oa ob o9
  repeat' (first|(first|refine go1 ?_|refine zg (fun _ _=>?_)|refine zi (fun _ _=>?_))|(refine zJ (p := str r90 = str r90) rfl (fun _ => ?_) (fun h => absurd rfl h))|(refine zI (d := some 60) (cs := [.string (str r90)]) rfl (fun bu wu xu au hbu => ?_); have su := SlE.new (E := strE) (l := [str r90]) au rfl (Nat.le_refl _))|(refine zC (d := some 61) rfl (equal_true (l := [str r90]) (m := [str r90]) _ (SlE.ext (by exact fx) s9) su rfl (by simp)) ?_; rintro _ we ⟨rfl, xe⟩)|(refine zC (d := some 69) rfl (all_spec (M := M9) (l := [eA 500]) _ (G9.r.ext (by exact fx)) (fun b hb => Nat.lt_of_lt_of_le (hM9 b hb) (Ext.size (by exact fx))) (by simp)) ?_; rintro vc w13 ⟨oc, x13⟩; have sc : SlR entR [] w13 vc [eA 500] := (oc.sub (M' := []) (by simp)).sl (by simp))|(refine zG (d := some 70) (E := entR) (M := []) (l := [eA 500]) rfl (SlR.ext sc (by exact fx)) ?_))
  exact x_ret rfl ⟨rfl, by exact fx⟩
end Go.Proofs.YteggaepppahefaaGreat
end
section
namespace Go.Proofs.YteggaepppahefaaGreat
open Go Go.K
attribute [local irreducible] regK codeK retK KOp.wp K.Spec u32 leS vnS str zero32 sha2 encT idT sizeT checkT grantB idN stepR workL reachE findI dropG addG trimL scoreL scoreP worstI wS
theorem worst_nil (w : World) : K.Spec Tryz.prog F.trim_Worst [.pointer none] w fun r w' => r = .tuple #[.string ⟨#[]⟩, .bool false] ∧ Ext w w' := by
  refine s_trim_Worst rfl ?_
  unfold k_trim_Worst
  refine ox ?_
  repeat' (first|(first|refine go1 ?_|refine zg (fun _ _=>?_)|refine zi (fun _ _=>?_))|(refine zC (d := some 12) rfl (all_nil _) ?_; rintro va w2 ⟨rfl, x2⟩)|(refine c_loopV (fun (_ : Unit) w' => Ext w w') (fun _ => [(4, .string ⟨#[]⟩), (13, .int .i64 0), (14, .int .i64 0)]) (fun _ => 0) () ⟨rfl, rfl, rfl, trivial⟩ (by exact fx) ?_; rintro ⟨⟩ ρ w3 x3; try dsimp only))
  exact x_ret rfl ⟨rfl, x3⟩
theorem total_nil (w : World) : K.Spec Tryz.prog F.trim_total [.pointer none] w fun r w' => r = .int .i64 0 ∧ Ext w w' := by
  refine s_trim_total rfl ?_
  unfold k_trim_total
  refine ox ?_
  repeat' (first|(first|refine go1 ?_|refine zg (fun _ _=>?_)|refine zi (fun _ _=>?_))|(refine zC (d := some 7) rfl (all_nil _) ?_; rintro va w2 ⟨rfl, x2⟩)|(refine c_loopV (fun (_ : Unit) w' => Ext w w') (fun _ => [(3, .int .i64 0), (8, .int .i64 0), (9, .int .i64 0)]) (fun _ => 0) () ⟨rfl, rfl, rfl, trivial⟩ (by exact fx) ?_; rintro ⟨⟩ ρ w3 x3; try dsimp only))
  exact x_ret rfl ⟨rfl, x3⟩
theorem trim_nil (w : World) : K.Spec Tryz.prog F.trim_Trim [.pointer none, .int .i64 0] w fun r w' => r = .tuple #[.slice none 0 0, .int .i64 0] ∧ Ext w w' := by
  refine s_trim_Trim rfl ?_
  unfold k_trim_Trim
  refine ox ?_
  repeat' (first|(first|refine go1 ?_|refine zg (fun _ _=>?_)|refine zi (fun _ _=>?_))|(refine c_loopV (fun (_ : Unit) w' => Ext w w') (fun _ => [(0, .pointer none), (1, .int .i64 0), (6, .slice none 0 0), (7, .int .i64 0)]) (fun _ => 0) () ⟨rfl, rfl, rfl, rfl, trivial⟩ (by exact fx) ?_; rintro ⟨⟩ ρ w3 x3; try dsimp only)|(refine zC (d := some 15) rfl (total_nil _) ?_; rintro va w2 ⟨rfl, x2⟩))
  exact x_ret rfl ⟨rfl, x3.trans x2⟩
theorem scoreP_no {l : List Ent} {s : ByteArray} (h : findI l s < 0) : scoreP l s = (0, 0) := by
  have h1 := @findI_any l s
  rw [decide_eq_false (by omega)] at h1
  unfold scoreP hasE
  rw [← h1]; rfl
set_option maxHeartbeats 4000000 in
theorem scores_law {v : Value} {sc : List Small} (other : ByteArray) (w : World) (hs : SlR smR [] w v sc) : K.Spec Tryz.prog F.kedgelaw19_TrimScores [v, .string other] w fun r w' => r = .bool true ∧ Ext w w' := by
  refine s_kedgelaw19_TrimScores rfl ?_
  unfold k_kedgelaw19_TrimScores
  refine ox ?_
  repeat' (first|(first|refine go1 ?_|refine zg (fun _ _=>?_)|refine zi (fun _ _=>?_))|(refine zC (d := some 22) rfl (filled19_spec 12 _ (SlR.ext hs (by exact fx)) (by decide)) ?_; rintro _ w2 ⟨g, M, u, l, rfl, G2, u2, hl, x2⟩)|(refine zG (d := some 26) (E := entR) (M := M) (l := l) rfl (SlR.ext u2 (by exact fx)) ?_))
  have hM2 := G2.lt
  have hok := G2.ok
  have hnd := G2.nodup
  have GR := G2.r
  have hMx : ∀ {w'}, Ext w2 w' → ∀ b ∈ M, b < w'.heap.size := fun x b hb => Nat.lt_of_lt_of_le (hM2 b hb) x.size
  repeat' (first|(first|refine go1 ?_|refine zg (fun _ _=>?_)|refine zi (fun _ _=>?_))|(refine zL rfl (fun h => ?_) (fun h => ?_))|(refine c_loopV (fun (i : Nat) w' => Ext w2 w' ∧ i ≤ l.length) (fun i => [(1, .string other), (5, .pointer (some ⟨g, 0, none⟩)), (6, u), (25, u), (26, .int .i64 (l.length : Nat)), (27, .int .i64 i)]) (fun i => l.length - i) 0 ⟨rfl, rfl, rfl, rfl, rfl, rfl, trivial⟩ ⟨Ext.refl _, Nat.zero_le _⟩ ?_; rintro i ρ w3 ⟨x3, hi⟩)|(have hil : i < l.length := (by omega); refine st_elemR (d := some 30) (E := entR) (M := M) rfl rfl (n := i) (l := l) (SlR.ext u2 (by exact fx)) rfl hil (fun ad cs r4 he => ?_); obtain ⟨iv, ov, rfl, q1, q2, q3⟩ := he; have i1 := q1.one; have i2 := q2.one)|(refine st_local2 (d' := 8) (e := 7) (fun _=>rfl) (fun _=>rfl) rfl rfl rfl (by simp [entCs, i1, i2]; exact ⟨rfl, rfl, rfl, rfl, rfl⟩) (fun b6 w6 x6 a6 (r6 : Row w6 ⟨b6, 0, none⟩ (entCs l[i] iv ov)) hb6=>?_))|(refine zC (d := some 36) rfl (score_spec (M := M) (l := l) l[i].id _ (GR.ext (by exact fx)) (hMx (by exact fx)) (by omega)) ?_; rintro _ w7 ⟨rfl, x7⟩; rw [scoreP_mem hnd (List.getElem_mem hil)])|(refine zC (d := some 42) rfl (rscore_spec (M := M) (l := l) (n := i) _ (SlR.ext u2 (by exact fx)) hil (by omega) hok) ?_; rintro _ w8 ⟨rfl, x8⟩)|(refine zK (d := some 49) rfl (fun h => absurd h (by simp)) (fun _ => ?_))|(refine zN rfl (fun h => absurd rfl h) (fun _ => ?_)))
  · exact ⟨i + 1, ⟨rfl, rfl, rfl, rfl, rfl, rfl, trivial⟩, ⟨by exact fx, by omega⟩, by omega⟩
  by_cases h0 : 0 < l.length
  · obtain ⟨k, hk⟩ : ∃ k, k = (worstI l l.length).toNat := ⟨_, rfl⟩
    have hkl : k < l.length := by rw [hk]; exact worst_lt h0
    have hww : worstI l l.length = (k : Nat) := by have := (worstI_lt l l.length).2.2 h0; omega
    have hwS : wS l l.length = l[k].id := by
      rw [wS_worst h0]
      unfold worstE
      rw [entD_get (worst_lt h0)]
      subst hk; rfl
    repeat' (first|(refine zC (d := some 56) rfl (worst_spec (M := M) (l := l) _ (GR.ext (by exact fx)) (hMx (by exact fx)) (by omega)) ?_; rintro _ w4 ⟨rfl, x4⟩; rw [hwS, decide_eq_true h0])|(refine zC (d := some 60) rfl (rworst_spec (M := M) (l := l) _ (SlR.ext u2 (by exact fx)) (by omega) hok) ?_; rintro _ w5 ⟨rfl, x5⟩; rw [hww])|(refine st_fixV (d := some 63) (.bool true) rfl (congrArg (fun b => some (Value.bool b)) (decide_eq_true (show ((k : Nat) : Int) ≥ 0 by omega))) ?_)|(apply zO; focus((conv=>lhs;whnf)<;>(first|with_reducible exact rfl|(refine congrArg Value.bool ?_;decide))))|(refine st_elemR (d := some 71) (E := entR) (M := M) (kd := .i64) rfl rfl (n := k) (l := l) (SlR.ext u2 (by exact fx)) rfl hkl (fun ad cs r4 he => ?_); obtain ⟨iv, ov, rfl, q1, q2, q3⟩ := he)|(refine st_fixV (d := some 74) (.bool false) rfl (congrArg (fun b => some (Value.bool (!b))) (decide_eq_true (show l[k].id = l[k].id from rfl))) ?_)|(refine zC (d := some 88) rfl (score_spec (M := M) (l := l) other _ (GR.ext (by exact fx)) (hMx (by exact fx)) (by omega)) ?_; rintro _ w7 ⟨rfl, x7⟩)|(refine zC (d := some 92) rfl (worst_nil _) ?_; rintro _ w8 ⟨rfl, x8⟩)|(refine zC (d := some 95) rfl (wakes19_spec _) ?_; rintro _ w9 ⟨rfl, x9⟩)|(refine zC (d := some 99) rfl (find_spec (M := M) (l := l) other _ (SlR.ext u2 (by exact fx)) (by omega)) ?_; rintro _ _ ⟨rfl, rfl⟩)|(refine zJ (p := findI l other ≥ 0) rfl (fun hf => ?_) (fun hf => ?_))|(refine st_fixV (d := some 103) (.bool true) rfl (congrArg (fun b => some (Value.bool b)) (decide_eq_true (show (scoreP l other).1 = 0 by rw [scoreP_no (by omega)]))) ?_)|(refine st_fixV (d := some 106) (.bool true) rfl (congrArg (fun b => some (Value.bool b)) (decide_eq_true (show (scoreP l other).2 = 0 by rw [scoreP_no (by omega)]))) ?_)|(first|refine go1 ?_|refine zg (fun _ _=>?_)|refine zi (fun _ _=>?_)))
    all_goals exact x_ret rfl ⟨rfl, x2.trans (by exact fx)⟩
  · have hl0 : l.length = 0 := by omega
    have hww : worstI l l.length = -1 := by rw [hl0]; rw [worstI]
    have hwS : wS l l.length = ⟨#[]⟩ := by unfold wS; rw [if_pos hl0]
    repeat' (first|(refine zC (d := some 56) rfl (worst_spec (M := M) (l := l) _ (GR.ext (by exact fx)) (hMx (by exact fx)) (by omega)) ?_; rintro _ w4 ⟨rfl, x4⟩; rw [hwS, decide_eq_false h0])|(refine zC (d := some 60) rfl (rworst_spec (M := M) (l := l) _ (SlR.ext u2 (by exact fx)) (by omega) hok) ?_; rintro _ w5 ⟨rfl, x5⟩; rw [hww])|(refine zC (d := some 88) rfl (score_spec (M := M) (l := l) other _ (GR.ext (by exact fx)) (hMx (by exact fx)) (by omega)) ?_; rintro _ w7 ⟨rfl, x7⟩)|(refine zC (d := some 92) rfl (worst_nil _) ?_; rintro _ w8 ⟨rfl, x8⟩)|(refine zC (d := some 95) rfl (wakes19_spec _) ?_; rintro _ w9 ⟨rfl, x9⟩)|(refine zC (d := some 99) rfl (find_spec (M := M) (l := l) other _ (SlR.ext u2 (by exact fx)) (by omega)) ?_; rintro _ _ ⟨rfl, rfl⟩)|(refine zJ (p := findI l other ≥ 0) rfl (fun hf => ?_) (fun hf => ?_))|(refine st_fixV (d := some 103) (.bool true) rfl (congrArg (fun b => some (Value.bool b)) (decide_eq_true (show (scoreP l other).1 = 0 by rw [scoreP_no (by omega)]))) ?_)|(refine st_fixV (d := some 106) (.bool true) rfl (congrArg (fun b => some (Value.bool b)) (decide_eq_true (show (scoreP l other).2 = 0 by rw [scoreP_no (by omega)]))) ?_)|(first|refine go1 ?_|refine zg (fun _ _=>?_)|refine zi (fun _ _=>?_)))
    all_goals exact x_ret rfl ⟨rfl, x2.trans (by exact fx)⟩
end Go.Proofs.YteggaepppahefaaGreat
end
