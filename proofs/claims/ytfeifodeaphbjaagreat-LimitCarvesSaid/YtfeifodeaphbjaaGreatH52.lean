/- The walks of LimitAll and LimitLess. Plain: a transaction with many others that spend it, and their ids. Plain: the id of a long transaction. Plain: the id of a long transaction. Plain: the id of a long transaction. Plain: the id of a long transaction. Plain: the id of a long transaction. Plain: the id of a long transaction. Plain: the id of a long transaction. -/
import Derived.Test.YtfeifodeaphbjaaGreatH51
set_option linter.unusedVariables false
set_option linter.unusedSimpArgs false
section
namespace Go.Proofs.YtfeifodeaphbjaaGreat
open Go Go.K
attribute [local irreducible] regK codeK retK KOp.wp K.Spec u32 leS vnS str zero32 sha2 encT idT sizeT checkT grantB idN stepR workL reachE findI dropG addG aboveL belowL idsOf feeD sizeD szOf feeOf fitsL

set_option maxHeartbeats 2000000 in
theorem all_law (last : UInt8) {cs ds : List Value} {z : BuildG} {t : Tx} (w : World) (hz : buildR.rel [] w cs z) (ht : txR.rel [] w ds t) (hraw : t.Raw) :
    K.Spec Tryz.prog F.kedgelaw15_LimitAll [.agg cs.toArray, .agg ds.toArray, u8V last] w fun r w' => r = .bool true ∧ Ext w w' := by
  have hz0 := hz
  have ht0 := ht
  obtain ⟨ov, tv, lv, rfl, h1, h2, h3⟩ := hz
  obtain ⟨iv0, ov0, rfl, -⟩ := ht
  refine s_kedgelaw15_LimitAll rfl ?_
  unfold k_kedgelaw15_LimitAll
  refine ox ?_
  repeat' (first|(first|refine go1 ?_|refine zg (fun _ _=>?_)|refine zi (fun _ _=>?_))|(refine zD rfl rfl (fun b3 w3 x3 a3 (r3 : Row w3 ⟨b3, 0, none⟩ (bldCs z ov tv lv)) hb3=>?_))|(refine zD rfl rfl (fun b4 w4 x4 a4 (r4 : Row w4 ⟨b4, 0, none⟩ (txCs t iv0 ov0)) hb4=>?_))|(refine zC rfl (built_spec true _ (R.ext hz0 (by exact fx))) ?_; rintro _ w5 ⟨g, M, u, l, rfl, G5, u5, hl, x5⟩))
  have hM5 := G5.lt
  have hB5 := G5.base
  have s3 := x3.size
  have s4 := x4.size
  have s5 := x5.size
  have t5 : txR.rel M w5 (txCs t iv0 ov0) t := txR.step ht0 (x3.trans (x4.trans x5)) (by simp) (fun b hb => .inr (by have := hB5 b hb; omega))
  have x05 : Ext w w5 := x3.trans (x4.trans x5)
  have r45 := r4.ext x5
  have hid32 : ∀ x ∈ l, x.id.size = 32 := fun x hx => by rw [(G5.ok x hx).id]; exact idT_size _
  clear x3 x4 x5 r3 a3 a4 r4 hz0 ht0 h1 h2 h3
  repeat' (first|(first|refine go1 ?_|refine zg (fun _ _=>?_)|refine zi (fun _ _=>?_))|(refine zC rfl (cut_spec (M := M) (cs := txCs t iv0 ov0) (t := t) 4 _ (R.ext t5 (by exact fx)) hraw (by decide) (fun b hb => Nat.lt_of_lt_of_le (hM5 b hb) (Ext.size (by exact fx)))) ?_; rintro _ w17 ⟨ds1, t1, rfl, ho1, hcut, x17⟩))
  have s17 := x17.size
  have q1 := ho1.one
  have hM17 : ∀ b ∈ M, b < w17.heap.size := fun b hb => by have := hM5 b hb; omega
  have t17 : txR.rel M w17 ds1 t1 := txO.rel ho1 (fun b hb => hM5 b hb)
  obtain ⟨iv1, ov1, rfl, -⟩ := ho1
  have c1 := cut_sm hcut (by decide)
  clear r45 t5
  repeat' (first|(refine st_build (d := some 21) (cs := smallCs ⟨[last], 0, 0, 0, 200, 0⟩ (.slice (some ⟨b20, 0, none⟩) 1 1)) rfl ?_)|(refine zI (d := some 20) (cs := [u8V last]) rfl (fun b20 w20 x20 a20 hb20 => ?_))|(first|refine go1 ?_|refine zg (fun _ _=>?_)|refine zi (fun _ _=>?_))|(refine zC rfl (make_spec (M := M) (l := l) (cs := smallCs ⟨[last], 0, 0, 0, 200, 0⟩ (.slice (some ⟨b20, 0, none⟩) 1 1)) (z := ⟨[last], 0, 0, 0, 200, 0⟩) _ (u5.ext (by exact fx)) ⟨_, rfl, u8new a20 (fun h => by have := hM17 _ h; omega), is64_0⟩ (by omega) (by simp) hid32 (fun b hb => Nat.lt_of_lt_of_le (hM17 b hb) (Ext.size (by exact fx)))) ?_; rintro _ w22 ⟨ds2, t2, rfl, ho2, hmd, x22⟩))
  have s20 := x20.size
  have s22 := x22.size
  have q2 := ho2.one
  have t22 : txR.rel M w22 ds2 t2 := txO.rel ho2 (fun b hb => by have := hM17 b hb; omega)
  obtain ⟨iv2, ov2, rfl, -⟩ := ho2
  have c2 := hmd.sm
  refine zI (d := some 23) (cs := txCs t1 iv1 ov1 ++ txCs t2 iv2 ov2) rfl (fun b23 w23 x23 a23 hb23 => ?_)
  have l23 := a23.lt
  have s23 := x23.size
  obtain ⟨L, hL, hLf, hS⟩ : ∃ L : List Tx, L.length = 2 ∧ (∀ y ∈ L, y.Sm) ∧ SlR txR M w23 (.slice (some ⟨b23, 0, none⟩) 2 2) L := by
    have n23 : b23 ∉ M := fun h => by have := hM17 _ h; omega
    have g1 : txR.rel (b23 :: M) w23 (txCs t1 iv1 ov1) t1 := txR.step t17 (x20.trans (x22.trans x23)) (by simp) (fun b hb => by
      rcases List.mem_cons.1 hb with rfl | h
      · exact .inr (by omega)
      · exact .inl h)
    have g2 : txR.rel (b23 :: M) w23 (txCs t2 iv2 ov2) t2 := txR.step t22 x23 (by simp) (fun b hb => by
      rcases List.mem_cons.1 hb with rfl | h
      · exact .inr (by omega)
      · exact .inl h)
    exact ⟨[t1, t2], rfl, by simp; exact ⟨c1, c2⟩, SlR.ofAt [R.vec g1, R.vec g2] a23 rfl (.cons g1 (.cons g2 .nil)) n23 rfl⟩
  have x523 : Ext w5 w23 := x17.trans (x20.trans (x22.trans x23))
  have x023 : Ext w w23 := x05.trans x523
  have G23 := G5.ext x523
  have u23 := u5.ext x523
  have hM23 : ∀ b ∈ M, b < w23.heap.size := fun b hb => by have := hM5 b hb; omega
  clear a20 a23 x17 x20 x22 x23 t17 t22 G5 u5 x523 x05
  repeat' (first|(first|refine go1 ?_|refine zg (fun _ _=>?_)|refine zi (fun _ _=>?_))|(refine zL rfl (fun h => ?_) (fun h => ?_))|(refine c_loopV (fun (i : Nat) w' => Ext w23 w' ∧ i ≤ 2) (fun i => [(7, .pointer (some ⟨g, 0, none⟩)), (8, u), (23, .slice (some ⟨b23, 0, none⟩) 2 2), (24, .int .i64 2), (25, .int .i64 i)]) (fun i => 2 - i) 0 ⟨rfl, rfl, rfl, rfl, rfl, trivial⟩ ⟨Ext.refl _, by omega⟩ ?_; rintro i ρ w6 ⟨x6, hi⟩))
  · have hil : i < L.length := by omega
    refine st_elemR (d := some 27) (E := txR) (M := M) rfl rfl (n := i) (l := L) (hS.ext x6) rfl hil (fun ad cs r5 he => ?_)
    have hone := List.all_eq_true.2 (txR.one he)
    have hsm := hLf _ (List.getElem_mem hil)
    generalize L[i] = y at *
    have he0 := he
    obtain ⟨iv, ov3, rfl, -⟩ := he
    repeat' (first|(refine st_bin (d := some 35) (v := .bool false) rfl rfl (congrArg (fun b => some (Value.bool b)) (by simp)) ?_)|(first|refine go1 ?_|refine zg (fun _ _=>?_)|refine zi (fun _ _=>?_))|(refine zB ?_ ?_)|(refine zE (d' := 10) (fun _=>rfl) rfl rfl hone (fun b12 w12 x12 (a12 : At w12 b12 (.cells (txCs y iv ov3).toArray T.api_Tx (0, 0))) (r12 : Row w12 ⟨b12, 0, none⟩ (txCs y iv ov3)) hb12=>?_))|(refine zC rfl (fits_spec (M := M) (N := M) (l := l) (cs := txCs y iv ov3) (t := y) _ (G23.r.ext (by exact fx)) (fun b hb => Nat.lt_of_lt_of_le (hM23 b hb) (Ext.size (by exact fx))) (R.ext he0 (by exact fx)) hsm (by omega)) ?_; rintro _ w13 ⟨rfl, x13⟩)|(refine zC rfl (rfits_spec (M := M) (l := l) (cs := txCs y iv ov3) (t := y) _ (u23.ext (by exact fx)) (R.ext he0 (by exact fx)) hsm (by omega) G23.r.ok G23.r.nodup) ?_; rintro _ w14 ⟨rfl, x14⟩))
    all_goals exact ⟨i + 1, ⟨rfl, rfl, rfl, rfl, rfl, trivial⟩, ⟨by exact fx, by omega⟩, by omega⟩
  · repeat' (first|(first|refine go1 ?_|refine zg (fun _ _=>?_)|refine zi (fun _ _=>?_))|(refine zC rfl (wakes15_spec _) ?_; rintro _ w7 ⟨rfl, x7⟩))
    exact x_ret rfl ⟨rfl, by exact fx⟩
theorem drop_at {l : List Ent} {q : Nat} (hn : (l.map (·.id)).Nodup) (h : q < l.length) : dropG l l[q].id = (l.eraseIdx q, 0) := by
  unfold dropG
  rw [findI_at hn h, if_neg (by omega), Int.toNat_natCast]
set_option maxHeartbeats 2000000 in
theorem less_law (last which : UInt8) {cs : List Value} {z : BuildG} (w : World) (hz : buildR.rel [] w cs z) :
    K.Spec Tryz.prog F.kedgelaw15_LimitLess [.agg cs.toArray, u8V last, u8V which] w fun r w' => r = .bool true ∧ Ext w w' := by
  have hz0 := hz
  obtain ⟨ov, tv, lv, rfl, h1, h2, h3⟩ := hz
  refine s_kedgelaw15_LimitLess rfl ?_
  unfold k_kedgelaw15_LimitLess
  refine ox ?_
  repeat' (first|(refine st_build (d := some 19) (cs := smallCs ⟨[last], 0, 0, 0, 200, 0⟩ (.slice (some ⟨b18, 0, none⟩) 1 1)) rfl ?_)|(refine zI (d := some 18) (cs := [u8V last]) rfl (fun b18 w18 x18 a18 hb18 => ?_))|(first|refine go1 ?_|refine zg (fun _ _=>?_)|refine zi (fun _ _=>?_))|(refine zD rfl rfl (fun b3 w3 x3 a3 (r3 : Row w3 ⟨b3, 0, none⟩ (bldCs z ov tv lv)) hb3=>?_))|(refine zC rfl (built_spec false _ (R.ext hz0 (by exact fx))) ?_; rintro _ w4 ⟨g, M, u, l, rfl, G4, u4, hl, x4⟩; have hM4 := G4.lt; have hid32 : ∀ x ∈ l, x.id.size = 32 := (fun x hx => by rw [(G4.ok x hx).id]; exact idT_size _))|(refine zC rfl (make_spec (M := M) (l := l) (cs := smallCs ⟨[last], 0, 0, 0, 200, 0⟩ (.slice (some ⟨b18, 0, none⟩) 1 1)) (z := ⟨[last], 0, 0, 0, 200, 0⟩) _ (u4.ext (by exact fx)) ⟨_, rfl, u8new a18 (fun h => by have := hM4 _ h; omega), is64_0⟩ (by omega) (by simp) hid32 (fun b hb => Nat.lt_of_lt_of_le (hM4 b hb) (Ext.size (by exact fx)))) ?_; rintro _ w20 ⟨ds, t, rfl, ho, hmd, x20⟩))
  have s3 := x3.size
  have s4 := x4.size
  have s18 := x18.size
  have s20 := x20.size
  have q1 := ho.one
  have hsm := hmd.sm
  have t20 : txR.rel M w20 ds t := txO.rel ho (fun b hb => by have := hM4 b hb; omega)
  obtain ⟨iv, ov2, rfl, -⟩ := ho
  refine zE (d' := 9) (fun _=>rfl) rfl rfl q1 (fun b9 w9 x9 (a9 : At w9 b9 (.cells (txCs t iv ov2).toArray T.api_Tx (0, 0))) (r9 : Row w9 ⟨b9, 0, none⟩ (txCs t iv ov2)) hb9=>?_)
  have l9 := a9.lt
  have s9 := x9.size
  have x49 : Ext w4 w9 := x18.trans (x20.trans x9)
  have x09 : Ext w w9 := x3.trans (x4.trans x49)
  have G9 := G4.ext x49
  have u9 := u4.ext x49
  have t9 := R.ext t20 x9
  have hM9 : ∀ b ∈ M, b < w9.heap.size := fun b hb => by have := hM4 b hb; omega
  have n9 : b9 ∉ M := fun h => by have := hM4 _ h; omega
  clear x3 x4 x18 x20 x9 G4 u4 t20 x49 r3 a3 a18 h1 h2 h3 hz0
  by_cases hf : fitsL l t = 0
  · have hnd := G9.r.nodup
    by_cases hl0 : l.length = 0
    · repeat' (first|(refine st_bin (d := some 24) (v := .bool false) rfl rfl (congrArg (fun b => some (Value.bool b)) (by simp [hf])) ?_)|(refine st_bin (d := some 28) (v := .bool true) rfl rfl (congrArg (fun b => some (Value.bool b)) (by simp [hl0])) ?_)|(first|refine go1 ?_|refine zg (fun _ _=>?_)|refine zi (fun _ _=>?_))|(refine zG (E := entR) (M := M) (l := l) rfl (SlR.ext u9 (by exact fx)) ?_)|(refine zC rfl (fits_spec (M := M) (N := M) (l := l) (cs := txCs t iv ov2) (t := t) _ (G9.r.ext (by exact fx)) (fun b hb => Nat.lt_of_lt_of_le (hM9 b hb) (Ext.size (by exact fx))) (R.ext t9 (by exact fx)) hsm (by omega)) ?_; rintro _ w13 ⟨rfl, x13⟩)|(refine zC rfl (wakes15_spec _) ?_; rintro _ w7 ⟨rfl, x7⟩))
      exact x_ret rfl ⟨rfl, by exact fx⟩
    · have hq : which.toNat % l.length < l.length := Nat.mod_lt _ (by omega)
      repeat' (first|(refine st_bin (d := some 24) (v := .bool false) rfl rfl (congrArg (fun b => some (Value.bool b)) (by simp [hf])) ?_)|(refine st_bin (d := some 28) (v := .bool false) rfl rfl (congrArg (fun b => some (Value.bool b)) (decide_eq_false (by omega))) ?_)|(refine st_fixV (d := some 33) (.int .i64 (which.toNat : Nat)) rfl (congrArg (fun n => some (Value.int .i64 n)) (wrap_u8 which)) ?_)|(refine st_rem (d := some 36) (n := which.toNat) (m := l.length) rfl rfl (by omega) ?_)|(refine st_elemR (d := some 37) (E := entR) (M := M) rfl rfl (n := which.toNat % l.length) (l := l) (SlR.ext u9 (by exact fx)) rfl hq (fun ad cs r5 he => ?_))|(first|refine go1 ?_|refine zg (fun _ _=>?_)|refine zi (fun _ _=>?_))|(refine zG (E := entR) (M := M) (l := l) rfl (SlR.ext u9 (by exact fx)) ?_)|(refine zC rfl (fits_spec (M := M) (N := M) (l := l) (cs := txCs t iv ov2) (t := t) _ (G9.r.ext (by exact fx)) (fun b hb => Nat.lt_of_lt_of_le (hM9 b hb) (Ext.size (by exact fx))) (R.ext t9 (by exact fx)) hsm (by omega)) ?_; rintro _ w13 ⟨rfl, x13⟩))
      generalize which.toNat % l.length = q at *
      have hone := List.all_eq_true.2 (entR.one he)
      have hd := drop_at hnd hq
      have hle := @fits_less l t q hnd (fun x hx => (entOk_fit (G9.r.ok x hx)).2.1) hq
      generalize hy : l[q] = y at *
      have he0 := he
      obtain ⟨iv3, ov3, rfl, -⟩ := he
      by_cases hb : (idsOf l (belowL l y.id)).length > 1
      · repeat' (first|(refine st_bin (d := some 44) (v := .bool true) rfl rfl (congrArg (fun b => some (Value.bool b)) (decide_eq_true (by omega))) ?_)|(first|refine go1 ?_|refine zg (fun _ _=>?_)|refine zi (fun _ _=>?_))|(refine zE (d' := 10) (fun _=>rfl) rfl rfl hone (fun b10 w10 x10 (a10 : At w10 b10 (.cells (entCs y iv3 ov3).toArray T.api_Entry (0, 0))) (r10 : Row w10 ⟨b10, 0, none⟩ (entCs y iv3 ov3)) hb10=>?_))|(refine zC rfl (pbelow_spec (M := M) (l := l) y.id _ (G9.r.ext (by exact fx)) (fun b hb => Nat.lt_of_lt_of_le (hM9 b hb) (Ext.size (by exact fx))) (by omega)) ?_; rintro vb w14 ⟨ob, x14⟩; have sb := ob.sl)|(refine st_len rfl sb ?_)|(refine zC rfl (wakes15_spec _) ?_; rintro _ w7 ⟨rfl, x7⟩))
        exact x_ret rfl ⟨rfl, by exact fx⟩
      · by_cases hh : hangs t y = true
        · repeat' (first|(refine st_bin (d := some 44) (v := .bool false) rfl rfl (congrArg (fun b => some (Value.bool b)) (decide_eq_false (by omega))) ?_)|(first|refine go1 ?_|refine zg (fun _ _=>?_)|refine zi (fun _ _=>?_))|(refine zE (d' := 10) (fun _=>rfl) rfl rfl hone (fun b10 w10 x10 (a10 : At w10 b10 (.cells (entCs y iv3 ov3).toArray T.api_Entry (0, 0))) (r10 : Row w10 ⟨b10, 0, none⟩ (entCs y iv3 ov3)) hb10=>?_))|(refine zC rfl (pbelow_spec (M := M) (l := l) y.id _ (G9.r.ext (by exact fx)) (fun b hb => Nat.lt_of_lt_of_le (hM9 b hb) (Ext.size (by exact fx))) (by omega)) ?_; rintro vb w14 ⟨ob, x14⟩; have sb := ob.sl)|(refine st_len rfl sb ?_)|(refine zC rfl (hangs_spec (M := M) (cs := txCs t iv ov2) (ds := entCs y iv3 ov3) (t := t) (x := y) _ (R.ext t9 (by exact fx)) (R.ext he0 (by exact fx)) (by have := hsm.ins; omega)) ?_; rintro _ w15 ⟨rfl, x15⟩; rw [hh])|(refine zC rfl (wakes15_spec _) ?_; rintro _ w7 ⟨rfl, x7⟩))
          exact x_ret rfl ⟨rfl, by exact fx⟩
        · have hh2 : hangs t y = false := by simpa using hh
          have hle2 := hle hh2 (by omega) hf
          repeat' (first|(refine st_bin (d := some 44) (v := .bool false) rfl rfl (congrArg (fun b => some (Value.bool b)) (decide_eq_false (by omega))) ?_)|(first|refine go1 ?_|refine zg (fun _ _=>?_)|refine zi (fun _ _=>?_))|(refine zE (d' := 10) (fun _=>rfl) rfl rfl hone (fun b10 w10 x10 (a10 : At w10 b10 (.cells (entCs y iv3 ov3).toArray T.api_Entry (0, 0))) (r10 : Row w10 ⟨b10, 0, none⟩ (entCs y iv3 ov3)) hb10=>?_))|(refine zC rfl (pbelow_spec (M := M) (l := l) y.id _ (G9.r.ext (by exact fx)) (fun b hb => Nat.lt_of_lt_of_le (hM9 b hb) (Ext.size (by exact fx))) (by omega)) ?_; rintro vb w14 ⟨ob, x14⟩; have sb := ob.sl)|(refine st_len rfl sb ?_)|(refine zC rfl (hangs_spec (M := M) (cs := txCs t iv ov2) (ds := entCs y iv3 ov3) (t := t) (x := y) _ (R.ext t9 (by exact fx)) (R.ext he0 (by exact fx)) (by have := hsm.ins; omega)) ?_; rintro _ w15 ⟨rfl, x15⟩; rw [hh2])|(refine zC rfl (wakes15_spec _) ?_; rintro _ w7 ⟨rfl, x7⟩))
          have x97 : Ext w9 w7 := by exact fx
          have G7 := G9.ext x97
          have t7 := R.ext t9 x97
          have a97 := a9.ext x97
          refine zC rfl (gdrop_spec (M := M) (l := l) y.id _ G7 (by omega)) ?_
          rintro _ w16 ⟨M16, rfl, G16, c16, hb16⟩
          rw [hd] at G16 ⊢
          have hM16 := G16.lt
          have a16 := a97.chg c16 n9
          have r16 : Row w16 ⟨b9, 0, none⟩ (txCs t iv ov2) := Row.of_at a16
          have t16 : txR.rel M16 w16 (txCs t iv ov2) t := txR.step t7 c16 (fun b hb => .inl hb) hb16
          have hB7 := G7.base
          have x016 : Ext w w16 := (Ext.chg (x09.trans x97) c16).mono (fun b hb => .inr (by have := hB7 b hb; omega))
          have hel : (l.eraseIdx q).length ≤ 1000 := by rw [List.length_eraseIdx]; split <;> omega
          repeat' (first|(refine st_bin (d := some 57) (v := .bool true) rfl rfl rfl ?_)|(refine st_bin (d := some 63) (v := .bool true) rfl rfl rfl ?_)|(first|refine go1 ?_|refine zg (fun _ _=>?_)|refine zi (fun _ _=>?_))|(refine zC rfl (fits_spec (M := M16) (N := M16) (l := l.eraseIdx q) (cs := txCs t iv ov2) (t := t) _ (G16.r.ext (by exact fx)) (fun b hb => Nat.lt_of_lt_of_le (hM16 b hb) (Ext.size (by exact fx))) (R.ext t16 (by exact fx)) hsm hel) ?_; rintro _ w17 ⟨rfl, x17⟩; rw [hle2]))
          exact x_ret rfl ⟨rfl, x016.trans (by exact fx)⟩
  · repeat' (first|(refine st_bin (d := some 24) (v := .bool true) rfl rfl (congrArg (fun b => some (Value.bool b)) (by simp [hf])) ?_)|(first|refine go1 ?_|refine zg (fun _ _=>?_)|refine zi (fun _ _=>?_))|(refine zC rfl (fits_spec (M := M) (N := M) (l := l) (cs := txCs t iv ov2) (t := t) _ (G9.r.ext (by exact fx)) (fun b hb => Nat.lt_of_lt_of_le (hM9 b hb) (Ext.size (by exact fx))) (R.ext t9 (by exact fx)) hsm (by omega)) ?_; rintro _ w13 ⟨rfl, x13⟩)|(refine zC rfl (wakes15_spec _) ?_; rintro _ w7 ⟨rfl, x7⟩))
    exact x_ret rfl ⟨rfl, by exact fx⟩
end Go.Proofs.YtfeifodeaphbjaaGreat
end
section
namespace Go.K
open Go
def rootL : List UInt8 := [9, 57, 18, 91, 10, 214, 134, 88, 108, 112, 236, 245, 236, 26, 57, 198, 51, 222, 111, 170, 121, 251, 147, 214, 27, 234, 188, 145, 133, 70, 92, 118]
def tabS : List (List UInt8) := [
  [204, 222, 246, 121, 234, 13, 255, 100, 135, 103, 24, 87, 123, 132, 1, 251, 113, 4, 62, 14, 205, 187, 230, 166, 62, 155, 159, 6, 186, 24, 10, 200],
  [140, 70, 97, 43, 47, 161, 205, 79, 155, 7, 225, 183, 205, 76, 57, 11, 91, 148, 37, 170, 217, 95, 88, 68, 149, 251, 195, 101, 57, 7, 205, 9],
  [119, 252, 137, 57, 73, 122, 88, 211, 223, 213, 124, 12, 28, 192, 120, 142, 114, 243, 104, 245, 19, 224, 38, 49, 70, 251, 128, 129, 181, 3, 72, 162],
  [245, 7, 74, 149, 139, 161, 248, 96, 10, 146, 161, 72, 46, 49, 39, 125, 62, 126, 156, 68, 216, 251, 50, 121, 99, 150, 46, 204, 195, 171, 179, 2],
  [14, 48, 45, 11, 234, 13, 180, 8, 83, 42, 106, 214, 49, 203, 5, 32, 10, 237, 163, 141, 89, 89, 215, 63, 202, 140, 121, 14, 222, 47, 79, 64],
  [73, 130, 9, 145, 82, 103, 110, 109, 185, 48, 198, 71, 60, 155, 14, 59, 62, 146, 71, 56, 158, 118, 10, 15, 227, 162, 70, 163, 73, 214, 158, 68],
  [187, 236, 114, 224, 133, 189, 38, 70, 180, 52, 138, 255, 55, 183, 147, 171, 227, 96, 180, 56, 55, 201, 69, 124, 220, 103, 123, 150, 174, 147, 92, 90],
  [50, 151, 150, 71, 84, 148, 94, 255, 69, 86, 153, 50, 225, 107, 232, 38, 26, 223, 187, 207, 8, 54, 74, 181, 79, 187, 78, 219, 48, 255, 23, 170],
  [70, 210, 120, 249, 237, 212, 225, 1, 179, 188, 92, 177, 199, 132, 120, 79, 196, 137, 108, 165, 138, 190, 254, 169, 196, 170, 134, 217, 21, 102, 225, 186],
  [149, 162, 127, 151, 149, 83, 213, 34, 93, 211, 145, 241, 116, 192, 37, 247, 161, 217, 189, 79, 111, 153, 159, 219, 221, 7, 171, 141, 217, 49, 30, 238],
  [99, 244, 159, 192, 176, 88, 180, 3, 15, 215, 173, 133, 196, 105, 177, 243, 163, 144, 156, 11, 236, 160, 255, 251, 179, 178, 235, 57, 182, 174, 191, 51],
  [140, 225, 173, 38, 187, 221, 138, 87, 153, 149, 168, 79, 214, 140, 6, 144, 159, 165, 76, 155, 173, 168, 170, 220, 182, 35, 217, 115, 94, 197, 205, 183],
  [53, 156, 186, 125, 92, 174, 144, 224, 23, 177, 59, 181, 109, 250, 122, 137, 12, 190, 115, 177, 234, 69, 52, 202, 135, 227, 213, 64, 238, 43, 12, 184],
  [104, 48, 246, 30, 195, 77, 108, 250, 190, 121, 1, 58, 40, 229, 202, 201, 25, 0, 184, 19, 95, 100, 212, 191, 28, 163, 33, 234, 91, 203, 212, 4],
  [101, 195, 106, 61, 129, 243, 200, 73, 58, 108, 37, 157, 126, 154, 101, 231, 136, 230, 67, 26, 247, 93, 21, 170, 74, 241, 170, 167, 172, 212, 126, 248],
  [198, 59, 86, 140, 192, 240, 137, 75, 209, 161, 232, 227, 109, 82, 37, 154, 231, 158, 255, 251, 128, 63, 16, 85, 198, 27, 188, 199, 228, 251, 16, 225],
  [0, 188, 180, 146, 114, 195, 73, 141, 127, 128, 211, 88, 231, 161, 52, 73, 27, 48, 164, 225, 60, 175, 215, 121, 183, 183, 226, 247, 174, 177, 48, 153],
  [68, 185, 173, 63, 252, 30, 62, 165, 118, 144, 40, 3, 254, 77, 215, 255, 97, 194, 30, 171, 236, 115, 21, 51, 215, 54, 138, 245, 64, 180, 197, 173],
  [180, 40, 173, 164, 113, 239, 27, 54, 117, 138, 129, 79, 95, 17, 208, 215, 110, 59, 101, 9, 5, 31, 75, 22, 80, 171, 61, 68, 129, 206, 33, 187],
  [187, 125, 141, 217, 19, 25, 94, 119, 115, 24, 3, 10, 93, 126, 108, 95, 180, 185, 39, 132, 87, 237, 45, 220, 240, 45, 130, 201, 120, 147, 70, 40],
  [98, 253, 99, 24, 180, 188, 5, 239, 94, 227, 151, 47, 115, 243, 108, 149, 63, 17, 197, 204, 223, 188, 26, 43, 73, 75, 33, 104, 143, 74, 218, 197],
  [27, 72, 140, 0, 174, 250, 57, 149, 131, 35, 161, 52, 225, 14, 83, 236, 7, 105, 22, 120, 255, 11, 216, 209, 209, 95, 158, 83, 191, 176, 160, 144],
  [64, 40, 200, 64, 200, 80, 19, 139, 163, 186, 1, 249, 212, 97, 214, 216, 85, 32, 51, 91, 202, 161, 171, 148, 180, 110, 6, 128, 223, 133, 146, 134],
  [81, 203, 114, 151, 74, 176, 196, 221, 67, 223, 197, 132, 119, 229, 93, 12, 199, 101, 225, 18, 172, 170, 34, 201, 101, 167, 213, 245, 128, 130, 107, 27],
  [199, 2, 28, 55, 31, 122, 42, 126, 253, 77, 164, 103, 184, 70, 132, 240, 198, 30, 26, 188, 29, 28, 239, 214, 211, 69, 59, 115, 26, 210, 152, 46]]
def tabB : List (List UInt8) := [
  [29, 4, 112, 56, 64, 180, 199, 64, 37, 170, 126, 184, 21, 99, 130, 233, 244, 180, 242, 125, 178, 222, 117, 205, 54, 165, 121, 30, 185, 69, 13, 249],
  [58, 1, 116, 182, 207, 204, 246, 66, 175, 254, 86, 78, 164, 59, 247, 197, 112, 140, 2, 142, 93, 244, 119, 155, 153, 74, 78, 54, 86, 143, 228, 89],
  [163, 24, 101, 142, 56, 164, 148, 117, 250, 223, 32, 181, 0, 108, 146, 144, 14, 180, 220, 69, 112, 160, 250, 14, 199, 79, 173, 201, 5, 50, 78, 124],
  [102, 117, 159, 41, 162, 81, 12, 21, 115, 24, 61, 233, 17, 8, 139, 48, 39, 122, 19, 46, 85, 65, 147, 222, 234, 206, 249, 173, 190, 232, 140, 103],
  [14, 215, 124, 137, 6, 169, 136, 37, 194, 21, 63, 117, 71, 5, 115, 159, 196, 162, 30, 204, 138, 14, 223, 72, 192, 245, 189, 88, 78, 248, 249, 141],
  [214, 253, 222, 28, 49, 236, 93, 151, 238, 247, 6, 246, 31, 135, 233, 3, 50, 177, 221, 137, 187, 215, 236, 149, 232, 94, 14, 43, 160, 118, 32, 23],
  [146, 107, 55, 66, 251, 98, 178, 34, 131, 195, 149, 227, 113, 3, 180, 163, 52, 103, 253, 226, 57, 66, 211, 13, 96, 80, 23, 115, 141, 79, 238, 74]]
def tabM : List (List UInt8) := [
  [81, 98, 10, 239, 203, 72, 181, 147, 74, 5, 223, 238, 199, 36, 106, 202, 125, 107, 37, 213, 180, 110, 112, 11, 10, 19, 178, 6, 126, 234, 4, 132],
  [222, 179, 227, 168, 87, 32, 210, 90, 249, 94, 111, 230, 239, 212, 212, 8, 223, 198, 203, 153, 131, 247, 70, 52, 19, 90, 81, 127, 162, 100, 230, 195],
  [144, 213, 222, 27, 114, 95, 161, 102, 132, 220, 148, 220, 116, 96, 178, 50, 55, 45, 211, 179, 202, 154, 40, 96, 35, 244, 36, 159, 96, 99, 123, 17],
  [94, 126, 9, 188, 67, 205, 234, 108, 208, 33, 172, 131, 60, 234, 72, 74, 131, 45, 209, 161, 108, 110, 17, 170, 166, 100, 173, 231, 51, 39, 193, 124],
  [67, 199, 142, 24, 97, 226, 39, 224, 84, 202, 32, 169, 171, 122, 9, 214, 76, 143, 145, 233, 67, 71, 52, 90, 211, 3, 201, 76, 101, 182, 103, 32],
  [245, 156, 140, 253, 230, 72, 11, 231, 221, 58, 202, 184, 39, 168, 78, 135, 11, 34, 1, 153, 243, 104, 198, 237, 147, 164, 77, 21, 113, 227, 238, 195],
  [5, 45, 176, 209, 200, 16, 151, 212, 49, 30, 237, 205, 183, 107, 128, 67, 106, 206, 98, 113, 252, 230, 219, 43, 167, 20, 175, 197, 129, 191, 27, 1]]
def one1L : List UInt8 := [1, 1, 2, 3, 4, 5, 6, 7, 9, 9, 10, 11, 12, 13, 14, 15, 17, 17, 18, 19, 20, 21, 22, 23, 25, 25, 26, 27, 28, 29, 30, 31]
def s40L : List UInt8 := [48, 49, 50, 51, 52, 53, 54, 55, 56, 57, 48, 49, 50, 51, 52, 53, 54, 55, 56, 57, 48, 49, 50, 51, 52, 53, 54, 55, 56, 57, 48, 49, 50, 51, 52, 53, 54, 55, 56, 57]
theorem one1_id : str one1L = idN 1 := by
  unfold idN
  congr 1
theorem root_step : shaN (((shaN ((encU one1L 0 0 1 40 []).map UInt8.toNat)).map UInt8.ofNat).map UInt8.toNat) = rootL.map UInt8.toNat := by decide +kernel
theorem tabS_step : ∀ k, k < 25 → shaN (((shaN ((encU rootL k k 4294967293 3 []).map UInt8.toNat)).map UInt8.ofNat).map UInt8.toNat) = (tabS.getD k []).map UInt8.toNat := by decide +kernel
theorem tabS_nodup : (one1L :: rootL :: tabS).Nodup := by decide +kernel
theorem tabB_nodup : (one1L :: rootL :: tabB).Nodup := by decide +kernel
theorem tabS_size : ∀ l ∈ rootL :: tabS, l.length = 32 := by decide +kernel
theorem tabB_size : ∀ l ∈ tabB, l.length = 32 := by decide +kernel
theorem tabS_len : tabS.length = 25 := rfl
theorem tabB_len : tabB.length = 7 := rfl
/-- A digest of n blocks, over a row that ends as it should. -/
theorem shaN_tail (l : List Nat) (n k : Nat) (tl : List Nat) (hl : l.length = k) (ht : 128 :: (List.replicate (padN k) 0 ++ (leL (k * 8) 8).reverse.map UInt8.toNat) = tl) (hn : k + tl.length = 64 * n) : shaN l = runN n (wordsN (l ++ tl)) 1779033703 3144134277 1013904242 2773480762 1359893119 2600822924 528734635 1541459225 := by
  have e : padNN l = l ++ tl := by unfold padNN; rw [hl, ht]
  unfold shaN
  rw [e, List.length_append, hl, hn]
  have : Nat.div (64 * n) 64 = n := Nat.mul_div_cancel_left n (by decide)
  rw [this]
end Go.K
end
section
namespace Go.K
open Go
theorem bigA0 : runN 197 (wordsN ((encU rootL 0 0 4294967293 256 s40L).map UInt8.toNat ++ [128, 0, 0, 0, 0, 0, 0, 0, 1, 137, 168])) 1779033703 3144134277 1013904242 2773480762 1359893119 2600822924 528734635 1541459225 = (tabM.getD 0 []).map UInt8.toNat := by decide +kernel
theorem bigB0 : shaN (((tabM.getD 0 []).map UInt8.toNat).map UInt8.ofNat |>.map UInt8.toNat) = (tabB.getD 0 []).map UInt8.toNat := by decide +kernel
end Go.K
end
section
namespace Go.K
open Go
theorem bigA1 : runN 197 (wordsN ((encU rootL 1 1 4294967293 256 s40L).map UInt8.toNat ++ [128, 0, 0, 0, 0, 0, 0, 0, 1, 137, 168])) 1779033703 3144134277 1013904242 2773480762 1359893119 2600822924 528734635 1541459225 = (tabM.getD 1 []).map UInt8.toNat := by decide +kernel
theorem bigB1 : shaN (((tabM.getD 1 []).map UInt8.toNat).map UInt8.ofNat |>.map UInt8.toNat) = (tabB.getD 1 []).map UInt8.toNat := by decide +kernel
end Go.K
end
section
namespace Go.K
open Go
theorem bigA2 : runN 197 (wordsN ((encU rootL 2 2 4294967293 256 s40L).map UInt8.toNat ++ [128, 0, 0, 0, 0, 0, 0, 0, 1, 137, 168])) 1779033703 3144134277 1013904242 2773480762 1359893119 2600822924 528734635 1541459225 = (tabM.getD 2 []).map UInt8.toNat := by decide +kernel
theorem bigB2 : shaN (((tabM.getD 2 []).map UInt8.toNat).map UInt8.ofNat |>.map UInt8.toNat) = (tabB.getD 2 []).map UInt8.toNat := by decide +kernel
end Go.K
end
section
namespace Go.K
open Go
theorem bigA3 : runN 197 (wordsN ((encU rootL 3 3 4294967293 256 s40L).map UInt8.toNat ++ [128, 0, 0, 0, 0, 0, 0, 0, 1, 137, 168])) 1779033703 3144134277 1013904242 2773480762 1359893119 2600822924 528734635 1541459225 = (tabM.getD 3 []).map UInt8.toNat := by decide +kernel
theorem bigB3 : shaN (((tabM.getD 3 []).map UInt8.toNat).map UInt8.ofNat |>.map UInt8.toNat) = (tabB.getD 3 []).map UInt8.toNat := by decide +kernel
end Go.K
end
section
namespace Go.K
open Go
theorem bigA4 : runN 197 (wordsN ((encU rootL 4 4 4294967293 256 s40L).map UInt8.toNat ++ [128, 0, 0, 0, 0, 0, 0, 0, 1, 137, 168])) 1779033703 3144134277 1013904242 2773480762 1359893119 2600822924 528734635 1541459225 = (tabM.getD 4 []).map UInt8.toNat := by decide +kernel
theorem bigB4 : shaN (((tabM.getD 4 []).map UInt8.toNat).map UInt8.ofNat |>.map UInt8.toNat) = (tabB.getD 4 []).map UInt8.toNat := by decide +kernel
end Go.K
end
section
namespace Go.K
open Go
theorem bigA5 : runN 197 (wordsN ((encU rootL 5 5 4294967293 256 s40L).map UInt8.toNat ++ [128, 0, 0, 0, 0, 0, 0, 0, 1, 137, 168])) 1779033703 3144134277 1013904242 2773480762 1359893119 2600822924 528734635 1541459225 = (tabM.getD 5 []).map UInt8.toNat := by decide +kernel
theorem bigB5 : shaN (((tabM.getD 5 []).map UInt8.toNat).map UInt8.ofNat |>.map UInt8.toNat) = (tabB.getD 5 []).map UInt8.toNat := by decide +kernel
end Go.K
end
section
namespace Go.K
open Go
theorem bigA6 : runN 197 (wordsN ((encU rootL 6 6 4294967293 256 s40L).map UInt8.toNat ++ [128, 0, 0, 0, 0, 0, 0, 0, 1, 137, 168])) 1779033703 3144134277 1013904242 2773480762 1359893119 2600822924 528734635 1541459225 = (tabM.getD 6 []).map UInt8.toNat := by decide +kernel
theorem bigB6 : shaN (((tabM.getD 6 []).map UInt8.toNat).map UInt8.ofNat |>.map UInt8.toNat) = (tabB.getD 6 []).map UInt8.toNat := by decide +kernel
end Go.K
end
