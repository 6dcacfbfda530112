/- Plain: what the document fixes of replacing. Contracts: what the document fixes of replacing. Contracts: replacing without a graph. The walk of ReplaceRules. -/
import Derived.Test.YtbnhinpegbcbeaaGreatG40
import Derived.Test.YtbnhinpegbcbeaaGreatG42
set_option linter.unusedVariables false
set_option linter.unusedSimpArgs false
section
namespace Go.K
open Go Go.Proofs.YtbnhinpegbcbeaaGreat
theorem rules_w1 : rulesL [eA 1000] (oneM (idL 8) 1) 1000 = 11 := by kernel_rfl
theorem rules_w2 : rulesL [eA 1000] (oneM (idL 8) 1) 1069 = 0 := by kernel_rfl
theorem need_w : needN [eA 1000] (oneM (idL 8) 1) = 1069 := by kernel_rfl
theorem need_we : needE [eA 1000] (oneM (idL 8) 1) = 0 := by kernel_rfl
theorem ev_w : idsOf [eA 1000] (evL [eA 1000] (oneM (idL 8) 1)) = [str r80] := by kernel_rfl
end Go.K
end
section
namespace Go.Proofs.YtbnhinpegbcbeaaGreat
open Go Go.K
attribute [local irreducible] regK codeK retK KOp.wp K.Spec u32 leS vnS str zero32 sha2 encT idT sizeT checkT grantB idN stepR workL reachE findI dropG addG oneM idL
attribute [local irreducible] makeN eA eB needN needE rulesL confL evL idsOf
abbrev zR0 : Small := ⟨[200], 0, 0, 0, 0, 0⟩
abbrev zR1 : Small := ⟨[200], 0, 0, 0, 1, 0⟩
set_option maxHeartbeats 4000000 in
theorem wakes16_spec (w : World) : K.Spec Tryz.prog F.kedgelaw16_wakes [] w fun r w' => r = .bool true ∧ Ext w w' := by
  refine s_kedgelaw16_wakes rfl ?_
  unfold k_kedgelaw16_wakes
  refine ox ?_
  repeat' (first|(first|refine go1 ?_|refine zg (fun _ _=>?_)|refine zi (fun _ _=>?_))|(refine zC rfl (new_spec _) ?_; rintro _ w1 ⟨g, M, rfl, G1, x1⟩; have hM1 := G1.lt; have hB1 := G1.base)|(refine zI (d := some 10) (cs := [.int .u8 200]) rfl (fun bz wz xz az hbz => ?_)))
  have hM1z : ∀ b ∈ M, b < wz.heap.size := fun b hb => Nat.lt_of_lt_of_le (hM1 b hb) xz.size
  refine zC rfl (make_exact (M := M) (l := []) (cs := smallCs zR0 (.slice (some ⟨bz, 0, none⟩) 1 1)) (z := zR0) _ (SlR.nil _ _) ⟨_, rfl, SlE.toR (F := u8E) (SlE.new (E := u8E) (l := [200]) az rfl (Nat.le_refl _)) (by intro b hb hm; simp [blkOf] at hb; subst hb; have := hM1 _ hm; omega), by show is64 0; exact is64_0⟩ (by simp) (by decide) (by simp) hM1z) ?_
  rintro _ w3 ⟨ds, t, rfl, ho, hm, ht, x3⟩
  have ht := ht rfl
  rw [makeN_one] at ht
  obtain ⟨hc, hgr, hol⟩ := made_one hm rfl rfl rfl
  have hsm := hm.sm
  have hM3 : ∀ b ∈ M, b < w3.heap.size := fun b hb => Nat.lt_of_lt_of_le (hM1z b hb) x3.size
  have t3 : txR.rel M w3 ds t := txO.rel ho hM1z
  have e1 := ho.one
  obtain ⟨iv, ov, rfl, -⟩ := ho
  refine zE (d' := 2) (fun _=>rfl) rfl rfl e1 (fun b2 w4 x4 a4 r4 hb4=>?_)
  have x14 : Ext w1 w4 := (xz.trans x3).trans x4
  have G4 := G1.ext x14
  have t4 : txR.rel M w4 (txCs t iv ov) t := R.ext t3 x4
  have hM4 : ∀ b ∈ M, b < w4.heap.size := fun b hb => Nat.lt_of_lt_of_le (hM3 b hb) x4.size
  have hb2 : b2 ∉ M := fun h => by have := hM3 b2 h; omega
  have x04 : Ext w w4 := x1.trans x14
  have l4 := a4.lt
  clear az t3 xz x3 x4 x14 hM3 hM1z
  repeat' (first|(first|refine go1 ?_|refine zg (fun _ _=>?_)|refine zi (fun _ _=>?_))|(refine zI (d := some 13) (cs := [.int .u8 200]) rfl (fun bz wz xz az hbz => ?_)))
  have hM4z : ∀ b ∈ M, b < wz.heap.size := fun b hb => Nat.lt_of_lt_of_le (hM4 b hb) xz.size
  refine zC rfl (make_exact (M := M) (l := []) (cs := smallCs zR1 (.slice (some ⟨bz, 0, none⟩) 1 1)) (z := zR1) _ (SlR.nil _ _) ⟨_, rfl, SlE.toR (F := u8E) (SlE.new (E := u8E) (l := [200]) az rfl (Nat.le_refl _)) (by intro b hb hm; simp [blkOf] at hb; subst hb; have := hM4 _ hm; omega), by show is64 0; exact is64_0⟩ (by simp) (by decide) (by simp) hM4z) ?_
  rintro _ w5 ⟨ds, u, rfl, ho, hmu, hu, x5⟩
  have hu := hu rfl
  rw [makeN_one] at hu
  obtain ⟨hcu, hgru, holu⟩ := made_one hmu rfl rfl rfl
  have hsmu := hmu.sm
  have hM5 : ∀ b ∈ M, b < w5.heap.size := fun b hb => Nat.lt_of_lt_of_le (hM4z b hb) x5.size
  have t5 : txR.rel M w5 ds u := txO.rel ho hM4z
  have e1 := ho.one
  obtain ⟨iv2, ov2, rfl, -⟩ := ho
  refine zE (d' := 3) (fun _=>rfl) rfl rfl e1 (fun b3 w6 x6 a6 r6 hb6=>?_)
  have x46 : Ext w4 w6 := (xz.trans x5).trans x6
  have G6 := G4.ext x46
  have t6 : txR.rel M w6 (txCs t iv ov) t := R.ext t4 x46
  have u6 : txR.rel M w6 (txCs u iv2 ov2) u := R.ext t5 x6
  have hM6 : ∀ b ∈ M, b < w6.heap.size := fun b hb => Nat.lt_of_lt_of_le (hM5 b hb) x6.size
  have hb3 : b3 ∉ M := fun h => by have := hM5 b3 h; omega
  have x06 : Ext w w6 := x04.trans x46
  have l6 := a6.lt
  have a46 := a4.ext x46
  have r46 : Row w6 ⟨b2, 0, none⟩ (txCs t iv ov) := Row.of_at a46
  have hb23 : b2 < w6.heap.size := Nat.lt_of_lt_of_le l4 x46.size
  have hn23 : b2 ≠ b3 := fun h => by have := (xz.trans x5).size; omega
  clear az t5 xz x5 x6 x46 hM5 hM4z G4 t4 hM4 x04 a4 r4
  have ht : t = oneM (idL 8) 0 := ht
  have hu : u = oneM (idL 8) 1 := hu
  have hgd : goodB 1000 = true := by rw [goodB_iff]; omega
  have hA : addG [] t 1000 = ([eA 1000], 0) := by rw [ht]; exact add_A (by rw [← ht]; exact hc) (by rw [← ht]; exact hgr) hgd
  have h64 : is64 1000 := by unfold is64; omega
  have hx1 : ∀ x ∈ [eA 1000], x.fee ≤ 1000000000000 := by intro x hx; simp only [List.mem_singleton] at hx; rw [hx]; unfold eA; simp only; omega
  have e1u := e1
  repeat' (first|(first|refine go1 ?_|refine zg (fun _ _=>?_)|refine zi (fun _ _=>?_))|(refine zC (d := some 18) rfl (gadd_spec (M := M) (N := M) (cs := txCs t iv ov) (t := t) 1000 _ (G6.ext (by exact fx)) (R.ext t6 (by exact fx)) hsm h64 (fun b hb => Nat.lt_of_lt_of_le (hM6 b hb) (Ext.size (by exact fx))) (fun _ h => h) (by simp)) ?_; rintro _ w7 ⟨M7, rfl, G7, c7, hb7⟩))
  rw [hA] at G7
  rw [show (addG [] t 1000).2 = 0 by rw [hA]]
  have x07 : Ext w w7 := (Ext.chg x06 c7).mono (fun b hb => .inr (hB1 b hb))
  have u7 : txR.rel M7 w7 (txCs u iv2 ov2) u := txR.step u6 c7 (fun b hb => .inl hb) hb7
  have r67 : Row w7 ⟨b3, 0, none⟩ (txCs u iv2 ov2) := Row.of_at (At.chg c7 a6 hb3)
  have hM7 := G7.lt
  have h7 := G7.r
  obtain ⟨-, f1, f2, -⟩ : (Value.int IntKind.u32 u.ver).oneCell' = true ∧ iv2.oneCell' = true ∧ ov2.oneCell' = true ∧ (Value.int IntKind.u32 u.lock).oneCell' = true := by simpa [txCs] using e1u
  clear G6 t6 u6 hM6 x06 a46 r46 a6 r6 c7
  have hMx : ∀ {w'}, Ext w7 w' → ∀ b ∈ M7, b < w'.heap.size := fun x b hb => Nat.lt_of_lt_of_le (hM7 b hb) x.size
  have n1 : needN [eA 1000] u = 1069 := by rw [hu]; exact need_w
  have n2 : needE [eA 1000] u = 0 := by rw [hu]; exact need_we
  have q1 : rulesL [eA 1000] u 1000 = 11 := by rw [hu]; exact rules_w1
  have q2 : rulesL [eA 1000] u 1069 = 0 := by rw [hu]; exact rules_w2
  have q3 : idsOf [eA 1000] (evL [eA 1000] u) = [str r80] := by rw [hu]; exact ev_w
  repeat' (first|(first|refine go1 ?_|refine zg (fun _ _=>?_)|refine zi (fun _ _=>?_))|(refine zC (d := some 22) rfl (need_spec (M := M7) (l := [eA 1000]) (cs := txCs u iv2 ov2) (t := u) _ (h7.ext (by exact fx)) (hMx (by exact fx)) (R.ext u7 (by exact fx)) hsmu (by simp) hx1) ?_; rintro _ w8 ⟨rfl, x8⟩; rw [n1, n2])|(refine zC (d := some 27) rfl (need_nil (t := u) (cs := txCs u iv2 ov2) rfl _ f1 f2) ?_; rintro _ w9 ⟨rfl, x9⟩)|(refine zC (d := some 43) rfl (rules_spec (M := M7) (l := [eA 1000]) (cs := txCs u iv2 ov2) (t := u) 1000 _ (h7.ext (by exact fx)) (hMx (by exact fx)) (R.ext u7 (by exact fx)) hsmu (by simp) hx1) ?_; rintro _ w10 ⟨rfl, x10⟩; rw [q1])|(refine zC (d := some 50) rfl (rules_spec (M := M7) (l := [eA 1000]) (cs := txCs u iv2 ov2) (t := u) 1069 _ (h7.ext (by exact fx)) (hMx (by exact fx)) (R.ext u7 (by exact fx)) hsmu (by simp) hx1) ?_; rintro _ w11 ⟨rfl, x11⟩; rw [q2])|(refine zC (d := some 56) rfl (evicted_spec (M := M7) (l := [eA 1000]) (cs := txCs u iv2 ov2) (t := u) _ (h7.ext (by exact fx)) (hMx (by exact fx)) (R.ext u7 (by exact fx)) hsmu.ins (by simp)) ?_; rintro v12 w12 ⟨o12, x12⟩; rw [q3] at o12; have s12 := o12.sl)|(refine st_len (d := some 57) (E := strE) (l := [str r80]) rfl (SlE.ext (by exact fx) s12) ?_)|(refine st_both ?_ ?_))

  all_goals exact x_ret rfl ⟨rfl, by exact fx⟩
end Go.Proofs.YtbnhinpegbcbeaaGreat
end
section
namespace Go.Proofs.YtbnhinpegbcbeaaGreat
open Go Go.K
attribute [local irreducible] regK codeK retK KOp.wp K.Spec u32 leS vnS str zero32 sha2 encT idT sizeT checkT grantB idN stepR workL reachE findI dropG addG
theorem conflicts_nil {cs : List Value} {iv ov : Value} {t : Tx} (he : cs = txCs t iv ov) (w : World) (h1 : iv.oneCell' = true) (h2 : ov.oneCell' = true) : K.Spec Tryz.prog F.replace_Conflicts [.pointer none, .agg cs.toArray] w fun r w' => r = .slice none 0 0 ∧ Ext w w' := by
  subst he
  refine s_replace_Conflicts rfl ?_
  unfold k_replace_Conflicts
  refine ox ?_
  repeat' (first|(first|refine go1 ?_|refine zg (fun _ _=>?_)|refine zi (fun _ _=>?_))|(refine zD (d := some 3) rfl rfl (fun bt wt xt bt' (rt : Row wt ⟨bt, 0, none⟩ (txCs t iv ov)) hbt0=>?_))|(refine zC (d := some 9) rfl (all_nil _) ?_; rintro _ w2 ⟨rfl, x2⟩)|(refine c_loopV (fun (i : Nat) w' => Ext w2 w') (fun i => [(0, .pointer none), (5, .slice none 0 0), (9, .slice none 0 0), (10, .int .i64 0), (11, .int .i64 0)]) (fun i => 0) 0 ⟨rfl, rfl, rfl, rfl, rfl, trivial⟩ (Ext.refl _) ?_; rintro i ρ w3 x3))
  all_goals trace_state
  all_goals exact x_ret rfl ⟨rfl, by exact fx⟩
theorem evicted_nil {cs : List Value} {iv ov : Value} {t : Tx} (he : cs = txCs t iv ov) (w : World) (h1 : iv.oneCell' = true) (h2 : ov.oneCell' = true) : K.Spec Tryz.prog F.replace_Evicted [.pointer none, .agg cs.toArray] w fun r w' => r = .slice none 0 0 ∧ Ext w w' := by
  subst he
  refine s_replace_Evicted rfl ?_
  unfold k_replace_Evicted
  refine ox ?_
  repeat' (first|(first|refine go1 ?_|refine zg (fun _ _=>?_)|refine zi (fun _ _=>?_))|(refine zD (d := some 3) rfl rfl (fun bt wt xt bt' (rt : Row wt ⟨bt, 0, none⟩ (txCs t iv ov)) hbt0=>?_))|(refine st_makeMap (d := some 13) (E := sK) (fv := fun n : Nat => Value.int .i64 (n : Nat)) (fun bm w1 x1 m1 hb1 => ?_))|(refine zC (d := some 16) rfl (conflicts_nil (t := t) (cs := txCs t iv ov) rfl _ h1 h2) ?_; rintro _ w2 ⟨rfl, x2⟩)|(refine c_loopV (fun (i : Nat) w' => Ext w2 w') (fun i => [(0, .pointer none), (16, .slice none 0 0), (17, .int .i64 0), (18, .int .i64 0)]) (fun i => 0) 0 ⟨rfl, rfl, rfl, rfl, trivial⟩ (Ext.refl _) ?_; rintro i ρ w3 x3)|(refine zC (d := some 37) rfl (all_nil _) ?_; rintro _ w4 ⟨rfl, x4⟩)|(refine c_loopV (fun (i : Nat) w' => Ext w4 w') (fun i => [(10, .slice none 0 0), (37, .slice none 0 0), (38, .int .i64 0), (39, .int .i64 0)]) (fun i => 0) 0 ⟨rfl, rfl, rfl, rfl, trivial⟩ (Ext.refl _) ?_; rintro i ρ w5 x5))
  all_goals trace_state
  all_goals exact x_ret rfl ⟨rfl, by exact fx⟩
end Go.Proofs.YtbnhinpegbcbeaaGreat
end
section
namespace Go.Proofs.YtbnhinpegbcbeaaGreat
open Go Go.K
theorem slAt {α : Type} {E : R α} {M : List Nat} {w : World} {b n : Nat} {t : TypeId} {arr : List Value} {l : List α} (css : List (Vec E.k)) (h : At w b (.cells arr.toArray t (0, 0))) (e : (vecE E.k E.pos).flat css = arr) (ha : E.all (b :: M) w css l) (hb : b ∉ M) (hn : css.length = n) : SlR E M w (.slice (some ⟨b, 0, none⟩) n n) l := by
  subst hn
  have o : OwnR E t 0 M w (.slice (some ⟨b, 0, none⟩) css.length css.length) l := ⟨css, .inr ⟨b, css.length, [], rfl, Nat.zero_le _, by rw [e, List.append_nil]; exact h, by rw [List.append_nil, Enc.flat_length]⟩, ha⟩
  exact o.sl fun b' hb' h' => by
    simp [blkOf] at h'
    subst h'; exact hb hb'
attribute [local irreducible] regK codeK retK KOp.wp K.Spec u32 leS vnS str zero32 sha2 encT idT sizeT checkT grantB idN stepR workL reachE findI dropG addG needN needE rulesL enoughL confL evL idsOf
set_option maxHeartbeats 4000000 in
theorem rrules_law {v : Value} {cs rs : List Value} {sc : List ActP} {la : ActP} {rt : Tx} (w : World) (hs : SlR actpR [] w v sc) (ha : actpR.rel [] w cs la) (ht : txR.rel [] w rs rt) (hraw : rt.Raw) : K.Spec Tryz.prog F.kedgelaw16_ReplaceRules [v, .agg cs.toArray, .agg rs.toArray] w fun r w' => r = .bool true ∧ Ext w w' := by
  obtain ⟨fv, rfl, q1, q2, q3⟩ := ha
  have ht0 := ht
  obtain ⟨ri, ro, rfl, e1, e2, -⟩ := ht
  have f1 := e1.one
  have f2 := e2.one
  clear e1 e2
  refine s_kedgelaw16_ReplaceRules rfl ?_
  unfold k_kedgelaw16_ReplaceRules
  refine ox ?_
  repeat' (first|(first|refine go1 ?_|refine zg (fun _ _=>?_)|refine zi (fun _ _=>?_))|(refine zD (d := some 4) rfl rfl (fun bp wp xp ap (rp : Row wp ⟨bp, 0, none⟩ (actpCs la fv)) hp0=>?_))|(refine zD (d := some 5) rfl rfl (fun bq wq xq aq (rq : Row wq ⟨bq, 0, none⟩ (txCs rt ri ro)) hq0=>?_)))
  refine zC (d := some 15) rfl (filled16_spec (sc := sc) _ (SlR.ext hs (by exact fx))) ?_
  rintro _ w4 ⟨g, M, u, l, rfl, G4, u4, hl, hfl, x4⟩
  have hM4 := G4.lt
  have hB4 := G4.base
  have sp := xp.size
  have sq := xq.size
  have hid32 : ∀ x ∈ l, x.id.size = 32 := fun x hx => by rw [(G4.ok x hx).id]; exact idT_size _
  have q14 : SlR u8R M w4 fv la.sm.frm := (q1.ext (xp.trans xq)).step x4 (by simp) (fun b hb => .inr (hB4 b hb))
  have t4 : txR.rel M w4 (txCs rt ri ro) rt := txR.step ht0 (xp.trans (xq.trans x4)) (by simp) (fun b hb => .inr (by have := hB4 b hb; omega))
  have rp4 : Row w4 ⟨bp, 0, none⟩ (actpCs la fv) := (Row.ext xq rp).ext x4
  have rq4 : Row w4 ⟨bq, 0, none⟩ (txCs rt ri ro) := Row.ext x4 rq
  have x04 : Unit → Ext w w4 := fun _ => xp.trans (xq.trans x4)
  have hE := G4.ok
  have hnd := G4.nodup
  have hMx : ∀ {w'}, Ext w4 w' → ∀ b ∈ M, b < w'.heap.size := fun x b hb => Nat.lt_of_lt_of_le (hM4 b hb) x.size
  have hfl9 : ∀ x ∈ l, x.fee ≤ 1000000000000 := fun x hx => by have := hfl x hx; omega
  have hqe : ∀ x ∈ l, x.tx.ins.length ≤ 1000 := fun x hx => (chk_sm (hE x hx).check).ins
  have hsme : ∀ x ∈ l, x.tx.Sm := fun x hx => chk_sm (hE x hx).check
  have G4r := G4.r
  clear xp xq x4 rp rq ap aq ht0 G4
  repeat' (first|(refine st_joinV (b := .cons ⟨some 22, _, _⟩ _) (fun (p : Tx × Value × Value) w' => Ext w4 w' ∧ txR.rel M w' (txCs p.1 p.2.1 p.2.2) p.1 ∧ p.1.Sm ∧ ((txCs p.1 p.2.1 p.2.2).all fun v => v.oneCell') = true) (fun p => [(4, .pointer (some ⟨bp, 0, none⟩)), (5, .pointer (some ⟨bq, 0, none⟩)), (7, .pointer (some ⟨g, 0, none⟩)), (8, u), (20, .agg (txCs p.1 p.2.1 p.2.2).toArray), (21, .agg (txCs rt ri ro).toArray), (25, .int .i64 0)]) ?_ ?_)|(rintro ⟨t1, iv1, ov1⟩ ρ5 w5 ⟨x45, t5, hsm1, hone1⟩; simp only at t5 hsm1 hone1; dsimp only)|(exact ⟨⟨t1, iv1, ov1⟩, ⟨rfl, rfl, rfl, rfl, rfl, rfl, rfl, trivial⟩, by exact fx, R.ext t15 (by exact fx), hsm1, hone1⟩)|(first|refine go1 ?_|refine zg (fun _ _=>?_)|refine zi (fun _ _=>?_))|(refine zB ?_ ?_)|(refine zC (d := some 20) rfl (of16_spec (M := M) (l := l) (cs := actpCs la fv) (a := la) _ (u4.ext (by exact fx)) ⟨fv, rfl, q14.ext (by exact fx), q2, q3⟩ (by omega) hid32 (hMx (by exact fx))) ?_; rintro _ w15 ⟨ds, t1, rfl, ho, hsm1, x15⟩; have t15 : txR.rel M w15 ds t1 := txO.rel ho (hMx (by exact fx)); have hone1 := ho.one; obtain ⟨iv1, ov1, rfl, -⟩ := ho)|(refine zC (d := some 22) rfl (cut_spec (M := M) (cs := txCs rt ri ro) (t := rt) 4 _ (R.ext t4 (by exact fx)) hraw (by decide) (hMx (by exact fx))) ?_; rintro _ w6 ⟨ds2, t2, rfl, ho2, hcut, x56⟩))
  have t6 : txR.rel M w6 ds2 t2 := txO.rel ho2 (hMx x45)
  have hone2 := ho2.one
  obtain ⟨iv2, ov2, rfl, -⟩ := ho2
  have hsm2 := cut_sm hcut (by decide)
  have s45 := x45.size
  have s56 := x56.size
  refine zI (d := some 23) (cs := txCs t1 iv1 ov1 ++ txCs t2 iv2 ov2) rfl (fun b23 w23 x23 a23 hb23 => ?_)
  have l23 := a23.lt
  have s23 := x23.size
  obtain ⟨L, hL, hLf, hS⟩ : ∃ L : List Tx, L.length = 2 ∧ (∀ y ∈ L, y.Sm) ∧ SlR txR M w23 (.slice (some ⟨b23, 0, none⟩) 2 2) L := by
    have n23 : b23 ∉ M := fun h => by have := hM4 _ h; omega
    have g1 : txR.rel (b23 :: M) w23 (txCs t1 iv1 ov1) t1 := txR.step t5 (x56.trans x23) (by simp) (fun b hb => by
      rcases List.mem_cons.1 hb with rfl | h
      · exact .inr (by omega)
      · exact .inl h)
    have g2 : txR.rel (b23 :: M) w23 (txCs t2 iv2 ov2) t2 := txR.step t6 x23 (by simp) (fun b hb => by
      rcases List.mem_cons.1 hb with rfl | h
      · exact .inr (by omega)
      · exact .inl h)
    exact ⟨[t1, t2], rfl, by simp; exact ⟨hsm1, hsm2⟩, slAt [R.vec g1, R.vec g2] a23 rfl (.cons g1 (.cons g2 .nil)) n23 rfl⟩
  have x423 : Ext w4 w23 := x45.trans (x56.trans x23)
  have x023 : Unit → Ext w w23 := fun _ => (x04 ()).trans x423
  have G23 := G4r.ext x423
  have u23 := u4.ext x423
  have rp23 := rp4.ext x423
  have rq23 := rq4.ext x423
  have hM23 : ∀ {w'}, Ext w23 w' → ∀ b ∈ M, b < w'.heap.size := fun x b hb => hMx (x423.trans x) b hb
  clear a23 x45 x56 x23 t5 t6 t4 q14 u4 rp4 rq4 G4r hMx
  repeat' (first|(first|refine go1 ?_|refine zg (fun _ _=>?_)|refine zi (fun _ _=>?_))|(refine zL rfl (fun h => ?_) (fun h => ?_))|(refine c_loopV (fun (i : Nat) w' => Ext w23 w' ∧ i ≤ 2) (fun i => [(4, .pointer (some ⟨bp, 0, none⟩)), (5, .pointer (some ⟨bq, 0, none⟩)), (7, .pointer (some ⟨g, 0, none⟩)), (8, u), (23, .slice (some ⟨b23, 0, none⟩) 2 2), (24, .int .i64 2), (25, .int .i64 i)]) (fun i => 2 - i) 0 ⟨rfl, rfl, rfl, rfl, rfl, rfl, rfl, trivial⟩ ⟨Ext.refl _, by omega⟩ ?_; rintro i ρ w7 ⟨x7, hi⟩))
  · have hil : i < L.length := by omega
    refine st_elemR (d := some 27) (E := txR) (M := M) rfl rfl (n := i) (l := L) (hS.ext x7) rfl hil (fun ad cs r5 he => ?_)
    have hone := List.all_eq_true.2 (txR.one he)
    have hsm := hLf _ (List.getElem_mem hil)
    generalize L[i] = y at *
    have he0 := he
    obtain ⟨iv, ov3, rfl, -⟩ := he
    repeat' (first|refine go1 ?_|refine zg (fun _ _=>?_)|refine zi (fun _ _=>?_))
    refine zE (d' := 10) (fun _=>rfl) rfl rfl hone (fun b12 w12 x12 (a12 : At w12 b12 (.cells (txCs y iv ov3).toArray T.api_Tx (0, 0))) (r12 : Row w12 ⟨b12, 0, none⟩ (txCs y iv ov3)) hb12=>?_)
    have x212 : Unit → Ext w23 w12 := fun _ => x7.trans x12
    have G12 := G23.ext (x7.trans x12)
    have u12 := u23.ext (x7.trans x12)
    have rp12 := rp23.ext (x7.trans x12)
    have t12 : txR.rel M w12 (txCs y iv ov3) y := R.ext he0 x12
    have hM12 : ∀ {w'}, Ext w12 w' → ∀ b ∈ M, b < w'.heap.size := fun x b hb => hM23 ((x212 ()).trans x) b hb
    clear x7 x12 he0 r5
    have hc1 := idsOf_le1 l (confL l y)
    have hc2 := idsOf_le1 l (evL l y)
    repeat' (first|(refine st_joinV (b := .cons ⟨some 46, _, _⟩ _) (fun (p : Value) w' => Ext w12 w' ∧ SlE strE w' p (idsOf l (evL l y))) (fun p => [(4, .pointer (some ⟨bp, 0, none⟩)), (5, .pointer (some ⟨bq, 0, none⟩)), (7, .pointer (some ⟨g, 0, none⟩)), (8, u), (10, .pointer (some ⟨b12, 0, none⟩)), (23, .slice (some ⟨b23, 0, none⟩) 2 2), (24, .int .i64 2), (25, .int .i64 i), (39, .bool false), (42, p), (43, u), (44, u), (45, .agg (txCs y iv ov3).toArray)]) ?_ ?_)|(refine st_joinV (b := .join (.cons ⟨some 35, _, _⟩ _) _) (fun (p : Value) w' => Ext w12 w' ∧ SlE strE w' p (idsOf l (confL l y))) (fun p => [(4, .pointer (some ⟨bp, 0, none⟩)), (5, .pointer (some ⟨bq, 0, none⟩)), (7, .pointer (some ⟨g, 0, none⟩)), (8, u), (10, .pointer (some ⟨b12, 0, none⟩)), (23, .slice (some ⟨b23, 0, none⟩) 2 2), (24, .int .i64 2), (25, .int .i64 i), (31, p), (32, u), (33, u), (34, .agg (txCs y iv ov3).toArray)]) ?_ ?_)|(rintro p ρ8 w8 ⟨x8, sp8⟩; try dsimp only)|(exact ⟨vk, ⟨rfl, rfl, rfl, rfl, rfl, rfl, rfl, rfl, rfl, rfl, rfl, rfl, trivial⟩, by exact fx, SlE.ext (by exact fx) sk⟩)|(exact ⟨vk, ⟨rfl, rfl, rfl, rfl, rfl, rfl, rfl, rfl, rfl, rfl, rfl, rfl, rfl, trivial⟩, by exact fx, SlE.ext (by exact fx) sk⟩)|(refine st_bin (d := some 57) (v := .int .i64 (andI la.sm.fee 65535)) rfl rfl rfl ?_)|(refine st_bin (d := some 61) (v := .int .i64 (andI la.sm.fee 16777215)) rfl rfl rfl ?_)|(first|refine go1 ?_|refine zg (fun _ _=>?_)|refine zi (fun _ _=>?_))|(apply zO; focus((conv=>lhs;whnf)<;>(first|with_reducible exact rfl|(refine congrArg Value.bool ?_;decide))))|(refine zB ?_ ?_)|(refine zC (d := some 31) rfl (conflicts_spec (M := M) (N := M) (l := l) (cs := txCs y iv ov3) (t := y) _ (G12.ext (by exact fx)) (hM12 (by exact fx)) (R.ext t12 (by exact fx)) hsm.ins (by omega)) ?_; rintro vk w13 ⟨ok, x13⟩; have sk := ok.sl)|(refine zC (d := some 42) rfl (evicted_spec (M := M) (N := M) (l := l) (cs := txCs y iv ov3) (t := y) _ (G12.ext (by exact fx)) (hM12 (by exact fx)) (R.ext t12 (by exact fx)) hsm.ins (by omega)) ?_; rintro vk w14 ⟨ok, x14⟩; have sk := ok.sl)|(refine zC (d := some 35) rfl (rconf_spec (M := M) (l := l) (cs := txCs y iv ov3) (t := y) _ (SlR.ext u12 (by exact fx)) (R.ext t12 (by exact fx)) hsm.ins (by omega) hqe) ?_; rintro vm w15 ⟨sm, x15, -⟩)|(refine zC (d := some 36) rfl (ids_spec (M := M) (l := l) (m := confL l y) _ (SlR.ext u12 (by exact fx)) (SlE.ext (by exact fx) sm) confL_len (by omega)) ?_; rintro vi w16 ⟨oi, x16⟩; have si := oi.sl)|(refine zC (d := some 37) rfl (equal_true (l := idsOf l (confL l y)) (m := idsOf l (confL l y)) _ (SlE.ext (by exact fx) sp8) (SlE.ext (by exact fx) si) rfl (by omega)) ?_; rintro _ w17 ⟨rfl, x17⟩)|(refine zC (d := some 46) rfl (rev_spec (M := M) (l := l) (cs := txCs y iv ov3) (t := y) _ (SlR.ext u12 (by exact fx)) (R.ext t12 (by exact fx)) hsm.ins (by omega) hsme) ?_; rintro vm w18 ⟨sm, x18, -⟩)|(refine zC (d := some 47) rfl (ids_spec (M := M) (l := l) (m := evL l y) _ (SlR.ext u12 (by exact fx)) (SlE.ext (by exact fx) sm) evL_len (by omega)) ?_; rintro vi w19 ⟨oi, x19⟩; have si := oi.sl)|(refine zC (d := some 48) rfl (equal_true (l := idsOf l (evL l y)) (m := idsOf l (evL l y)) _ (SlE.ext (by exact fx) sp8) (SlE.ext (by exact fx) si) rfl (by omega)) ?_; rintro _ w20 ⟨rfl, x20⟩))
    refine zI (d := some 62) (cs := [.int .i64 la.sm.fee, .int .i64 (andI la.sm.fee 65535), .int .i64 (andI la.sm.fee 16777215)]) rfl (fun b62 w62 x62 a62 hb62 => ?_)
    have s62 := SlE.new (E := intE) (l := [la.sm.fee, andI la.sm.fee 65535, andI la.sm.fee 16777215]) a62 rfl (Nat.le_refl _)
    have x1262 : Ext w12 w62 := by exact fx
    have x262 : Unit → Ext w23 w62 := fun _ => (x212 ()).trans x1262
    have G62 := G12.ext x1262
    have u62 := u12.ext x1262
    have t62 := R.ext t12 x1262
    have r62 := Row.ext x1262 r12
    have hM62 : ∀ {w'}, Ext w62 w' → ∀ b ∈ M, b < w'.heap.size := fun x b hb => hM12 (x1262.trans x) b hb
    clear x1262 x62 a62 x212 r12 t12 u12 G12
    generalize andI la.sm.fee 65535 = f2 at *
    generalize andI la.sm.fee 16777215 = f3 at *
    repeat' (first|(first|refine go1 ?_|refine zg (fun _ _=>?_)|refine zi (fun _ _=>?_))|(refine zL rfl (fun h => ?_) (fun h => ?_))|(refine c_loopV (fun (k : Nat) w' => Ext w62 w' ∧ k ≤ 3) (fun k => [(4, .pointer (some ⟨bp, 0, none⟩)), (5, .pointer (some ⟨bq, 0, none⟩)), (7, .pointer (some ⟨g, 0, none⟩)), (8, u), (10, .pointer (some ⟨b12, 0, none⟩)), (23, .slice (some ⟨b23, 0, none⟩) 2 2), (24, .int .i64 2), (25, .int .i64 i), (62, .slice (some ⟨b62, 0, none⟩) 3 3), (63, .int .i64 3), (64, .int .i64 k)]) (fun k => 3 - k) 0 ⟨rfl, rfl, rfl, rfl, rfl, rfl, rfl, rfl, rfl, rfl, rfl, trivial⟩ ⟨Ext.refl _, by omega⟩ ?_; rintro k ρ9 w63 ⟨x63, hk⟩))
    · have hkl : k < [la.sm.fee, f2, f3].length := by simp; omega
      refine st_elemE (d := some 66) (E := intE) (l := [la.sm.fee, f2, f3]) rfl rfl (s62.ext x63) rfl hkl (fun ad r4 => ?_)
      obtain ⟨f, hf⟩ : ∃ f, f = [la.sm.fee, f2, f3][k] := ⟨_, rfl⟩
      have r4 : Row w63 ad [Value.int .i64 f] := by rw [hf]; exact r4
      have u63 := u62.ext x63
      have G63 := G62.ext x63
      have t63 := R.ext t62 x63
      have r63 := Row.ext x63 r62
      have x263 : Unit → Ext w62 w63 := fun _ => x63
      have hM63 : ∀ {w'}, Ext w63 w' → ∀ b ∈ M, b < w'.heap.size := fun x b hb => hM62 ((x263 ()).trans x) b hb
      clear x63
      repeat' (first|(refine st_joinV (b := .cons ⟨some 75, _, _⟩ _) (fun (p : Nat) w' => Ext w63 w') (fun p => [(4, .pointer (some ⟨bp, 0, none⟩)), (5, .pointer (some ⟨bq, 0, none⟩)), (7, .pointer (some ⟨g, 0, none⟩)), (8, u), (10, .pointer (some ⟨b12, 0, none⟩)), (23, .slice (some ⟨b23, 0, none⟩) 2 2), (24, .int .i64 2), (25, .int .i64 i), (62, .slice (some ⟨b62, 0, none⟩) 3 3), (63, .int .i64 3), (64, .int .i64 k), (71, .int .i64 (rulesL l y f)), (72, u), (73, .agg (txCs y iv ov3).toArray), (74, .int .i64 f)]) ?_ ?_)|(rintro p ρ8 w64 x64; try dsimp only)|(exact ⟨0, ⟨rfl, rfl, rfl, rfl, rfl, rfl, rfl, rfl, rfl, rfl, rfl, rfl, rfl, rfl, rfl, trivial⟩, by exact fx⟩)|(first|refine go1 ?_|refine zg (fun _ _=>?_)|refine zi (fun _ _=>?_))|(refine zB ?_ ?_)|(refine zC (d := some 71) rfl (rules_spec (M := M) (N := M) (l := l) (cs := txCs y iv ov3) (t := y) f _ (G63.ext (by exact fx)) (hM63 (by exact fx)) (R.ext t63 (by exact fx)) hsm (by omega) hfl9) ?_; rintro _ w65 ⟨rfl, x65⟩)|(refine zC (d := some 75) rfl (rrules_spec (M := M) (l := l) (cs := txCs y iv ov3) (t := y) f _ (SlR.ext u63 (by exact fx)) (R.ext t63 (by exact fx)) hsm (by omega) hE hfl9 hnd hid32) ?_; rintro _ w66 ⟨rfl, x66⟩)|(refine zN (p := rulesL l y f = rulesL l y f) rfl (fun h => absurd rfl h) (fun _ => ?_)))
      exact ⟨k + 1, ⟨rfl, rfl, rfl, rfl, rfl, rfl, rfl, rfl, rfl, rfl, rfl, trivial⟩, ⟨(x263 ()).trans (by exact fx), by omega⟩, by omega⟩
    · exact ⟨i + 1, ⟨rfl, rfl, rfl, rfl, rfl, rfl, rfl, trivial⟩, ⟨(x262 ()).trans (by exact fx), by omega⟩, by omega⟩
  · have r5 := rq23.ext x7
    repeat' (first|(first|refine go1 ?_|refine zg (fun _ _=>?_)|refine zi (fun _ _=>?_))|(apply zO; focus((conv=>lhs;whnf)<;>(first|with_reducible exact rfl|(refine congrArg Value.bool ?_;decide))))|(refine zC (d := some 79) rfl (wakes16_spec _) ?_; rintro _ w8 ⟨rfl, x8⟩)|(refine zC (d := some 82) rfl (rules_nil 0 (t := rt) (cs := txCs rt ri ro) rfl _ f1 f2) ?_; rintro _ w9 ⟨rfl, x9⟩)|(refine zC (d := some 87) rfl (conflicts_nil (t := rt) (cs := txCs rt ri ro) rfl _ f1 f2) ?_; rintro _ w10 ⟨rfl, x10⟩)|(refine zC (d := some 93) rfl (evicted_nil (t := rt) (cs := txCs rt ri ro) rfl _ f1 f2) ?_; rintro _ w11 ⟨rfl, x11⟩))
    exact x_ret rfl ⟨rfl, (x023 ()).trans (by exact fx)⟩
end Go.Proofs.YtbnhinpegbcbeaaGreat
end
