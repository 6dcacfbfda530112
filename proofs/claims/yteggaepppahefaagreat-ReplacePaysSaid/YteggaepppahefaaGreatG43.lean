/- Plain: what the document fixes of replacing. Contracts: what the document fixes of replacing. The walk of ReplacePays. Plain: transactions alike in all parts are one. -/
import Derived.Test.YteggaepppahefaaGreatG42
set_option linter.unusedVariables false
set_option linter.unusedSimpArgs false
section
namespace Go.K
open Go Go.Proofs.YteggaepppahefaaGreat
theorem rules_w1 : rulesL [eA 1000] (oneM (idL 8) 1) 1000 = 11 := by kernel_rfl
theorem rules_w2 : rulesL [eA 1000] (oneM (idL 8) 1) 1069 = 0 := by kernel_rfl
theorem need_w : needN [eA 1000] (oneM (idL 8) 1) = 1069 := by kernel_rfl
theorem need_we : needE [eA 1000] (oneM (idL 8) 1) = 0 := by kernel_rfl
theorem ev_w : idsOf [eA 1000] (evL [eA 1000] (oneM (idL 8) 1)) = [str r80] := by kernel_rfl
end Go.K
end
section
namespace Go.Proofs.YteggaepppahefaaGreat
open Go Go.K
attribute [local irreducible] regK codeK retK KOp.wp K.Spec u32 leS vnS str zero32 sha2 encT idT sizeT checkT grantB idN stepR workL reachE findI dropG addG oneM idL
attribute [local irreducible] makeN eA eB needN needE rulesL confL evL idsOf
abbrev zR0 : Small := ⟨[200], 0, 0, 0, 0, 0⟩
abbrev zR1 : Small := ⟨[200], 0, 0, 0, 1, 0⟩
set_option maxHeartbeats 4000000 in
theorem wakes16_spec (w : World) : K.Spec Tryz.prog F.kedgelaw16_wakes [] w fun r w' => r = .bool true ∧ Ext w w' := by
  refine s_kedgelaw16_wakes rfl ?_
  unfold k_kedgelaw16_wakes
  refine ox ?_
  repeat' (first|(first|refine go1 ?_|refine zg (fun _ _=>?_)|refine zi (fun _ _=>?_))|(refine zC rfl (new_spec _) ?_; rintro _ w1 ⟨g, M, rfl, G1, x1⟩; have hM1 := G1.lt; have hB1 := G1.base)|(refine zI (d := some 10) (cs := [.int .u8 200]) rfl (fun bz wz xz az hbz => ?_)))
  have hM1z : ∀ b ∈ M, b < wz.heap.size := fun b hb => Nat.lt_of_lt_of_le (hM1 b hb) xz.size
  refine zC rfl (make_exact (M := M) (l := []) (cs := smallCs zR0 (.slice (some ⟨bz, 0, none⟩) 1 1)) (z := zR0) _ (SlR.nil _ _) ⟨_, rfl, SlE.toR (F := u8E) (SlE.new (E := u8E) (l := [200]) az rfl (Nat.le_refl _)) (by intro b hb hm; simp [blkOf] at hb; subst hb; have := hM1 _ hm; omega), by show is64 0; exact is64_0⟩ (by simp) (by decide) (by simp) hM1z) ?_
  rintro _ w3 ⟨ds, t, rfl, ho, hm, ht, x3⟩
  have ht := ht rfl
  rw [makeN_one] at ht
  obtain ⟨hc, hgr, hol⟩ := made_one hm rfl rfl rfl
  have hsm := hm.sm
  have hM3 : ∀ b ∈ M, b < w3.heap.size := fun b hb => Nat.lt_of_lt_of_le (hM1z b hb) x3.size
  have t3 : txR.rel M w3 ds t := txO.rel ho hM1z
  have e1 := ho.one
  obtain ⟨iv, ov, rfl, -⟩ := ho
  refine zE (d' := 2) (fun _=>rfl) rfl rfl e1 (fun b2 w4 x4 a4 r4 hb4=>?_)
  have x14 : Ext w1 w4 := (xz.trans x3).trans x4
  have G4 := G1.ext x14
  have t4 : txR.rel M w4 (txCs t iv ov) t := R.ext t3 x4
  have hM4 : ∀ b ∈ M, b < w4.heap.size := fun b hb => Nat.lt_of_lt_of_le (hM3 b hb) x4.size
  have hb2 : b2 ∉ M := fun h => by have := hM3 b2 h; omega
  have x04 : Ext w w4 := x1.trans x14
  have l4 := a4.lt
  clear az t3 xz x3 x4 x14 hM3 hM1z
  repeat' (first|(first|refine go1 ?_|refine zg (fun _ _=>?_)|refine zi (fun _ _=>?_))|(refine zI (d := some 13) (cs := [.int .u8 200]) rfl (fun bz wz xz az hbz => ?_)))
  have hM4z : ∀ b ∈ M, b < wz.heap.size := fun b hb => Nat.lt_of_lt_of_le (hM4 b hb) xz.size
  refine zC rfl (make_exact (M := M) (l := []) (cs := smallCs zR1 (.slice (some ⟨bz, 0, none⟩) 1 1)) (z := zR1) _ (SlR.nil _ _) ⟨_, rfl, SlE.toR (F := u8E) (SlE.new (E := u8E) (l := [200]) az rfl (Nat.le_refl _)) (by intro b hb hm; simp [blkOf] at hb; subst hb; have := hM4 _ hm; omega), by show is64 0; exact is64_0⟩ (by simp) (by decide) (by simp) hM4z) ?_
  rintro _ w5 ⟨ds, u, rfl, ho, hmu, hu, x5⟩
  have hu := hu rfl
  rw [makeN_one] at hu
  obtain ⟨hcu, hgru, holu⟩ := made_one hmu rfl rfl rfl
  have hsmu := hmu.sm
  have hM5 : ∀ b ∈ M, b < w5.heap.size := fun b hb => Nat.lt_of_lt_of_le (hM4z b hb) x5.size
  have t5 : txR.rel M w5 ds u := txO.rel ho hM4z
  have e1 := ho.one
  obtain ⟨iv2, ov2, rfl, -⟩ := ho
  refine zE (d' := 3) (fun _=>rfl) rfl rfl e1 (fun b3 w6 x6 a6 r6 hb6=>?_)
  have x46 : Ext w4 w6 := (xz.trans x5).trans x6
  have G6 := G4.ext x46
  have t6 : txR.rel M w6 (txCs t iv ov) t := R.ext t4 x46
  have u6 : txR.rel M w6 (txCs u iv2 ov2) u := R.ext t5 x6
  have hM6 : ∀ b ∈ M, b < w6.heap.size := fun b hb => Nat.lt_of_lt_of_le (hM5 b hb) x6.size
  have hb3 : b3 ∉ M := fun h => by have := hM5 b3 h; omega
  have x06 : Ext w w6 := x04.trans x46
  have l6 := a6.lt
  have a46 := a4.ext x46
  have r46 : Row w6 ⟨b2, 0, none⟩ (txCs t iv ov) := Row.of_at a46
  have hb23 : b2 < w6.heap.size := Nat.lt_of_lt_of_le l4 x46.size
  have hn23 : b2 ≠ b3 := fun h => by have := (xz.trans x5).size; omega
  clear az t5 xz x5 x6 x46 hM5 hM4z G4 t4 hM4 x04 a4 r4
  have ht : t = oneM (idL 8) 0 := ht
  have hu : u = oneM (idL 8) 1 := hu
  have hgd : goodB 1000 = true := by rw [goodB_iff]; omega
  have hA : addG [] t 1000 = ([eA 1000], 0) := by rw [ht]; exact add_A (by rw [← ht]; exact hc) (by rw [← ht]; exact hgr) hgd
  have h64 : is64 1000 := by unfold is64; omega
  have hx1 : ∀ x ∈ [eA 1000], x.fee ≤ 1000000000000 := by intro x hx; simp only [List.mem_singleton] at hx; rw [hx]; unfold eA; simp only; omega
  have e1u := e1
  repeat' (first|(first|refine go1 ?_|refine zg (fun _ _=>?_)|refine zi (fun _ _=>?_))|(refine zC (d := some 18) rfl (gadd_spec (M := M) (N := M) (cs := txCs t iv ov) (t := t) 1000 _ (G6.ext (by exact fx)) (R.ext t6 (by exact fx)) hsm h64 (fun b hb => Nat.lt_of_lt_of_le (hM6 b hb) (Ext.size (by exact fx))) (fun _ h => h) (by simp)) ?_; rintro _ w7 ⟨M7, rfl, G7, c7, hb7⟩))
  rw [hA] at G7
  rw [show (addG [] t 1000).2 = 0 by rw [hA]]
  have x07 : Ext w w7 := (Ext.chg x06 c7).mono (fun b hb => .inr (hB1 b hb))
  have u7 : txR.rel M7 w7 (txCs u iv2 ov2) u := txR.step u6 c7 (fun b hb => .inl hb) hb7
  have r67 : Row w7 ⟨b3, 0, none⟩ (txCs u iv2 ov2) := Row.of_at (At.chg c7 a6 hb3)
  have hM7 := G7.lt
  have h7 := G7.r
  obtain ⟨-, f1, f2, -⟩ : (Value.int IntKind.u32 u.ver).oneCell' = true ∧ iv2.oneCell' = true ∧ ov2.oneCell' = true ∧ (Value.int IntKind.u32 u.lock).oneCell' = true := by simpa [txCs] using e1u
  clear G6 t6 u6 hM6 x06 a46 r46 a6 r6 c7
  have hMx : ∀ {w'}, Ext w7 w' → ∀ b ∈ M7, b < w'.heap.size := fun x b hb => Nat.lt_of_lt_of_le (hM7 b hb) x.size
  have n1 : needN [eA 1000] u = 1069 := by rw [hu]; exact need_w
  have n2 : needE [eA 1000] u = 0 := by rw [hu]; exact need_we
  have q1 : rulesL [eA 1000] u 1000 = 11 := by rw [hu]; exact rules_w1
  have q2 : rulesL [eA 1000] u 1069 = 0 := by rw [hu]; exact rules_w2
  have q3 : idsOf [eA 1000] (evL [eA 1000] u) = [str r80] := by rw [hu]; exact ev_w
  repeat' (first|(first|refine go1 ?_|refine zg (fun _ _=>?_)|refine zi (fun _ _=>?_))|(refine zC (d := some 22) rfl (need_spec (M := M7) (l := [eA 1000]) (cs := txCs u iv2 ov2) (t := u) _ (h7.ext (by exact fx)) (hMx (by exact fx)) (R.ext u7 (by exact fx)) hsmu (by simp) hx1) ?_; rintro _ w8 ⟨rfl, x8⟩; rw [n1, n2])|(refine zC (d := some 27) rfl (need_nil (t := u) (cs := txCs u iv2 ov2) rfl _ f1 f2) ?_; rintro _ w9 ⟨rfl, x9⟩)|(refine zC (d := some 43) rfl (rules_spec (M := M7) (l := [eA 1000]) (cs := txCs u iv2 ov2) (t := u) 1000 _ (h7.ext (by exact fx)) (hMx (by exact fx)) (R.ext u7 (by exact fx)) hsmu (by simp) hx1) ?_; rintro _ w10 ⟨rfl, x10⟩; rw [q1])|(refine zC (d := some 50) rfl (rules_spec (M := M7) (l := [eA 1000]) (cs := txCs u iv2 ov2) (t := u) 1069 _ (h7.ext (by exact fx)) (hMx (by exact fx)) (R.ext u7 (by exact fx)) hsmu (by simp) hx1) ?_; rintro _ w11 ⟨rfl, x11⟩; rw [q2])|(refine zC (d := some 56) rfl (evicted_spec (M := M7) (l := [eA 1000]) (cs := txCs u iv2 ov2) (t := u) _ (h7.ext (by exact fx)) (hMx (by exact fx)) (R.ext u7 (by exact fx)) hsmu.ins (by simp)) ?_; rintro v12 w12 ⟨o12, x12⟩; rw [q3] at o12; have s12 := o12.sl)|(refine st_len (d := some 57) (E := strE) (l := [str r80]) rfl (SlE.ext (by exact fx) s12) ?_)|(refine st_both ?_ ?_))

  all_goals exact x_ret rfl ⟨rfl, by exact fx⟩
end Go.Proofs.YteggaepppahefaaGreat
end
section
namespace Go.Proofs.YteggaepppahefaaGreat
open Go Go.K
theorem pays_plain {l : List Ent} {t : Tx} {f : Int} (hn : (l.map (·.id)).Nodup) (hs : t.Sm) (hr : rulesL l t f = 0) (hh : l.any (hitE t) = true) :
    checkT t = 0 ∧ (∀ s ∈ idsOf l (confL l t), hasE l s = true ∧ cmpR f (sizeT t : Nat) (getE l s).fee (getE l s).size > 0 ∧ inB (idsOf l (evL l t)) s = true) ∧ goneF l t + (sizeT t : Nat) ≤ f := by
  obtain ⟨h1, h2, h3⟩ := rules_zero hr
  rcases h3 with h3 | ⟨-, -, -, -, h7⟩
  · rw [h3] at hh; cases hh
  · refine ⟨h1, fun s hs' => ?_, ?_⟩
    · obtain ⟨x, hx, h4, rfl⟩ := mem_conf.1 hs'
      have hg := get_mem hn hx
      rw [hg.2]
      exact ⟨has_iff.2 ⟨x, hx, rfl⟩, (enough_cmp h7 hx h4).1, inB_iff.2 (conf_ev hn hx h4)⟩
    · obtain ⟨x, hx, h4⟩ := List.any_eq_true.1 hh
      exact (enough_cmp h7 hx h4).2
attribute [local irreducible] regK codeK retK KOp.wp K.Spec u32 leS vnS str zero32 sha2 encT idT sizeT checkT grantB idN stepR workL reachE findI dropG addG needN needE rulesL enoughL confL evL idsOf goneF cmpR hitE inB
set_option maxHeartbeats 4000000 in
theorem rpays_law {v : Value} {cs : List Value} {sc : List ActP} {la : ActP} (more : Int) (hm : 0 ≤ more ∧ more ≤ 65535) (w : World) (hs : SlR actpR [] w v sc) (ha : actpR.rel [] w cs la) : K.Spec Tryz.prog F.kedgelaw16_ReplacePays [v, .agg cs.toArray, .int .u16 more] w fun r w' => r = .bool true ∧ Ext w w' := by
  obtain ⟨fv, rfl, q1, q2, q3⟩ := ha
  refine s_kedgelaw16_ReplacePays rfl ?_
  unfold k_kedgelaw16_ReplacePays
  refine ox ?_
  repeat' (first|(first|refine go1 ?_|refine zg (fun _ _=>?_)|refine zi (fun _ _=>?_))|(refine zD (d := some 4) rfl rfl (fun bp wp xp ap (rp : Row wp ⟨bp, 0, none⟩ (actpCs la fv)) hp0=>?_))|(refine zC (d := some 23) rfl (filled16_spec (sc := sc) _ (SlR.ext hs (by exact fx))) ?_; rintro _ w4 ⟨g, M, u, l, rfl, G4, u4, hl, hfl, x4⟩))
  have hM4 := G4.lt
  have hB4 := G4.base
  have sp := xp.size
  have hid32 : ∀ x ∈ l, x.id.size = 32 := fun x hx => by rw [(G4.ok x hx).id]; exact idT_size _
  have q14 : SlR u8R M w4 fv la.sm.frm := (q1.ext xp).step x4 (by simp) (fun b hb => .inr (hB4 b hb))
  repeat' (first|(first|refine go1 ?_|refine zg (fun _ _=>?_)|refine zi (fun _ _=>?_))|(refine zC (d := some 28) rfl (of16_spec (M := M) (l := l) (cs := actpCs la fv) (a := la) _ (u4.ext (by exact fx)) ⟨fv, rfl, q14.ext (by exact fx), q2, q3⟩ (by omega) hid32 hM4) ?_; rintro _ w5 ⟨ds, t, rfl, ho, hsm, x5⟩))
  have s5 := x5.size
  have hM5 : ∀ b ∈ M, b < w5.heap.size := fun b hb => by have := hM4 b hb; omega
  have t5 : txR.rel M w5 ds t := txO.rel ho hM4
  have o1 := ho.one
  obtain ⟨iv, ov, rfl, -⟩ := ho
  refine zE (d' := 9) (fun _=>rfl) rfl rfl o1 (fun b7 w7 x7 a7 r7 hb7=>?_)
  have G7 := (G4.r.ext x5).ext x7
  have u7 := (u4.ext x5).ext x7
  have t7 := R.ext t5 x7
  have hM7 : ∀ b ∈ M, b < w7.heap.size := fun b hb => by have := hM5 b hb; have := x7.size; omega
  have x07 : Unit → Ext w w7 := fun _ => ((xp.trans x4).trans x5).trans x7
  have hE := G4.ok
  have hnd := G4.nodup
  have rp7 : Row w7 ⟨bp, 0, none⟩ (actpCs la fv) := Row.ext (((Ext.trans x4 x5)).trans x7) rp
  clear G4 u4 t5 x4 x5 x7 xp ap rp q14
  have hf0 := andI_le la.sm.fee (m := 16777215) (by decide) (by decide)
  obtain ⟨Fe, hF⟩ : ∃ Fe, Fe = andI la.sm.fee 16777215 := ⟨_, rfl⟩
  rw [← hF] at hf0
  have hfl9 : ∀ x ∈ l, x.fee ≤ 1000000000000 := fun x hx => by have := hfl x hx; omega
  have hMx : ∀ {w'}, Ext w7 w' → ∀ b ∈ M, b < w'.heap.size := fun x b hb => Nat.lt_of_lt_of_le (hM7 b hb) x.size
  by_cases hr : rulesL l t Fe = 0
  · by_cases hh : l.any (hitE t) = true
    · obtain ⟨hc, hall, hgone⟩ := pays_plain hnd hsm hr hh
      have hz := (sz_of_check hsm hc).sizeM
      have e0 : sizeV t = .tuple #[.int .i64 (sizeT t : Nat), .int .i64 0] := by rw [sizeV, if_pos hc]
      have hone : (1000 * sizeT t + 999) / 1000 = sizeT t := by omega
      have hE2 : Priced l := fun x hx => ent_priced16 (hE x hx)
      have hmr := rules_more hnd hE2 hz hr hm.1 (by rw [goodB_iff]; omega)
      have hg0 := (gone_bound (t := t) (c := 16777215) (fun x hx => ⟨((goodB_iff _).1 (hE x hx).fee).1, hfl x hx⟩)).1
      have hfee : feeD l (idsOf l (evL l t)) = goneF l t := by rw [feeD_once hnd]; unfold goneF; rfl
      have hcl := idsOf_le1 l (confL l t)
      have hel := idsOf_le1 l (evL l t)
      have hne : ¬ (((idsOf l (confL l t)).length : Nat) : Int) = 0 := by
        intro h
        have := conf_len0.1 (show (idsOf l (confL l t)).length = 0 by omega)
        rw [this] at hh; cases hh
      have hF9 := hF
      have hcs : ∀ w', Ext w7 w' → K.Spec Tryz.prog F.replace_Conflicts [.pointer (some ⟨g, 0, none⟩), .agg (txCs t iv ov).toArray] w' fun r w'' => Own strE T.string w'.heap.size w'' r (idsOf l (confL l t)) ∧ Ext w' w'' := fun w' x => conflicts_spec (M := M) (N := M) (l := l) (t := t) w' (G7.ext x) (hMx x) (R.ext t7 x) hsm.ins (by omega)
      have hes : ∀ w', Ext w7 w' → K.Spec Tryz.prog F.replace_Evicted [.pointer (some ⟨g, 0, none⟩), .agg (txCs t iv ov).toArray] w' fun r w'' => Own strE T.string w'.heap.size w'' r (idsOf l (evL l t)) ∧ Ext w' w'' := fun w' x => evicted_spec (M := M) (N := M) (l := l) (t := t) w' (G7.ext x) (hMx x) (R.ext t7 x) hsm.ins (by omega)
      have hzs : ∀ w', Ext w7 w' → K.Spec Tryz.prog F.ident_Size [.agg (txCs t iv ov).toArray] w' fun r w'' => r = .tuple #[.int .i64 (sizeT t : Nat), .int .i64 0] ∧ Ext w' w'' := fun w' x => spec_mono (size_spec (M := M) (t := t) w' (R.ext t7 x) hsm) fun r w'' ⟨h1, h2⟩ => ⟨by rw [h1, e0], h2⟩
      clear hh e0
      generalize idsOf l (confL l t) = C at *
      generalize idsOf l (evL l t) = D at *
      generalize goneF l t = Q at *
      generalize sizeT t = S at *
      repeat' (first|(refine st_bin (d := some 32) (v := .int .i64 (andI la.sm.fee 16777215)) rfl rfl rfl ?_; rw [← hF9])|(refine st_fixV (d := some 43) (.bool false) rfl (congrArg (fun b => some (Value.bool b)) (decide_eq_false hne)) ?_)|(first|refine go1 ?_|refine zg (fun _ _=>?_)|refine zi (fun _ _=>?_))|(apply zO; focus((conv=>lhs;whnf)<;>(first|with_reducible exact rfl|(refine congrArg Value.bool ?_;decide))))|(refine zC (d := some 36) rfl (rules_spec (M := M) (l := l) (cs := txCs t iv ov) (t := t) Fe _ (G7.ext (by exact fx)) (hMx (by exact fx)) (R.ext t7 (by exact fx)) hsm (by omega) hfl9) ?_; rintro _ w8 ⟨rfl, x8⟩; rw [hr])|(refine zC (d := some 41) rfl (hcs _ (by exact fx)) ?_; rintro vc w9 ⟨oc, x9⟩; have sc := oc.sl)|(refine zC (d := some 50) rfl (hes _ (by exact fx)) ?_; rintro ve w10 ⟨oe, x10⟩; have se := oe.sl)|(refine zC (d := some 51) rfl (gsum_spec (M := M) (l := l) (ids := D) _ (G7.ext (by exact fx)) (hMx (by exact fx)) (SlE.ext (by exact fx) se) (by omega)) ?_; rintro _ w11 ⟨rfl, x11⟩; rw [hfee])|(refine zC (d := some 56) rfl (hzs _ (by exact fx)) ?_; rintro _ w12 ⟨rfl, x12⟩)|(refine zC (d := some 61) rfl (afee_spec 1000 S (by decide) hz.2 _) ?_; rintro _ w13 ⟨rfl, x13⟩; rw [hone])|(refine zC (d := some 66) rfl (hcs _ (by exact fx)) ?_; rintro vf w14 ⟨of, x14⟩; have sf := of.sl)|(refine st_len (d := some 42) (E := strE) (l := C) rfl (SlE.ext (by exact fx) sc) ?_)|(refine st_len (d := some 67) (E := strE) (l := C) rfl (SlE.ext (by exact fx) sf) ?_)|(refine zL rfl (fun h => ?_) (fun h => ?_))|(refine c_loopV (fun (i : Nat) w' => Ext w14 w' ∧ i ≤ C.length) (fun i => [(2, .int .u16 more), (7, .pointer (some ⟨g, 0, none⟩)), (9, .pointer (some ⟨b7, 0, none⟩)), (10, .int .i64 Fe), (11, .int .i64 Q), (13, .int .i64 (S : Nat)), (14, .int .i64 0), (15, .int .i64 (S : Nat)), (16, .int .i64 0), (66, vf), (67, .int .i64 (C.length : Nat)), (68, .int .i64 i)]) (fun i => C.length - i) 0 ⟨rfl, rfl, rfl, rfl, rfl, rfl, rfl, rfl, rfl, rfl, rfl, rfl, trivial⟩ ⟨Ext.refl _, by simp⟩ ?_; rintro i ρ w15 ⟨x15, hi⟩))
      · have hil : i < C.length := by omega
        obtain ⟨p1, p2, p3⟩ := hall _ (List.getElem_mem hil)
        repeat' (first|(refine st_fixV (d := some 88) (.bool false) rfl (congrArg (fun b => some (Value.bool b)) (decide_eq_false (by omega))) ?_)|(first|refine go1 ?_|refine zg (fun _ _=>?_)|refine zi (fun _ _=>?_))|(apply zO; focus((conv=>lhs;whnf)<;>(first|with_reducible exact rfl|(refine congrArg Value.bool ?_;decide))))|(refine st_elemE (d := some 70) (E := strE) rfl rfl (n := i) (l := C) (SlE.ext (by exact fx) sf) rfl hil (fun ad r9 => ?_); have r9 : Row _ ad [Value.string C[i]] := r9)|(refine zC (d := some 75) rfl (get_spec (M := M) C[i] _ (G7.ext (by exact fx)) (hMx (by exact fx))) ?_; rintro v5 w16 ⟨ds, rfl, e5, x16⟩; rw [p1]; obtain ⟨iv2, ov2, rfl, o1, o2, o3⟩ := e5; have i1 := o1.one; have i2 := o2.one)|(refine zE (d' := 19) (fun _=>rfl) rfl rfl (by simp [entCs, i1, i2]; exact ⟨rfl, rfl, rfl, rfl, rfl⟩) (fun b6 w17 x17 a17 (r17 : Row w17 ⟨b6, 0, none⟩ (entCs (getE l C[i]) iv2 ov2)) hb6=>?_))|(refine zC (d := some 87) rfl (compare_spec Fe (S : Nat) (getE l C[i]).fee (getE l C[i]).size _) ?_; rintro _ w18 ⟨rfl, x18⟩)|(refine zC (d := some 93) rfl (hes _ (by exact fx)) ?_; rintro vh w19 ⟨oh, x19⟩; have sh := oh.sl)|(refine zC (d := some 95) rfl (contains16 (l := D) C[i] _ (SlE.ext (by exact fx) sh) (by omega)) ?_; rintro _ _ ⟨rfl, rfl⟩; rw [p3]))
        exact ⟨i + 1, ⟨rfl, rfl, rfl, rfl, rfl, rfl, rfl, rfl, rfl, rfl, rfl, rfl, trivial⟩, ⟨by exact fx, by omega⟩, by omega⟩
      · have x014 : Unit → Ext w w15 := fun _ => (x07 ()).trans (by exact fx)
        repeat' (first|(refine st_fixV (d := some 112) (.int .i64 (Q + (S : Nat))) rfl (congrArg (fun n => some (Value.int .i64 n)) (IntWalk.i64_in _ (by omega))) ?_)|(refine st_fixV (d := some 113) (.bool true) rfl (congrArg (fun b => some (Value.bool b)) (decide_eq_true (by omega))) ?_)|(refine st_fixV (d := some 120) (.int .i64 more) rfl (congrArg (fun n => some (Value.int .i64 n)) (IntWalk.i64_in _ (by omega))) ?_)|(refine st_fixV (d := some 121) (.int .i64 (Fe + more)) rfl (congrArg (fun n => some (Value.int .i64 n)) (IntWalk.i64_in _ (by omega))) ?_)|(first|refine go1 ?_|refine zg (fun _ _=>?_)|refine zi (fun _ _=>?_))|(apply zO; focus((conv=>lhs;whnf)<;>(first|with_reducible exact rfl|(refine congrArg Value.bool ?_;decide))))|(refine zC (d := some 99) rfl (wakes16_spec _) ?_; rintro _ w20 ⟨rfl, x20⟩)|(refine zC (d := some 122) rfl (rules_spec (M := M) (l := l) (cs := txCs t iv ov) (t := t) (Fe + more) _ (G7.ext (by exact fx)) (hMx (by exact fx)) (R.ext t7 (by exact fx)) hsm (by omega) hfl9) ?_; rintro _ w21 ⟨rfl, x21⟩; rw [hmr]))
        exact x_ret rfl ⟨rfl, (x014 ()).trans (by exact fx)⟩
    · have hh2 : l.any (hitE t) = false := by simpa using hh
      have hcn := conf_none hh2
      repeat' (first|(refine st_bin (d := some 32) (v := .int .i64 (andI la.sm.fee 16777215)) rfl rfl rfl ?_; rw [← hF])|(first|refine go1 ?_|refine zg (fun _ _=>?_)|refine zi (fun _ _=>?_))|(apply zO; focus((conv=>lhs;whnf)<;>(first|with_reducible exact rfl|(refine congrArg Value.bool ?_;decide))))|(refine zC (d := some 36) rfl (rules_spec (M := M) (l := l) (cs := txCs t iv ov) (t := t) Fe _ (G7.ext (by exact fx)) (hMx (by exact fx)) (R.ext t7 (by exact fx)) hsm (by omega) hfl9) ?_; rintro _ w8 ⟨rfl, x8⟩; rw [hr])|(refine zC (d := some 41) rfl (conflicts_spec (M := M) (N := M) (l := l) (cs := txCs t iv ov) (t := t) _ (G7.ext (by exact fx)) (hMx (by exact fx)) (R.ext t7 (by exact fx)) hsm.ins (by omega)) ?_; rw [hcn]; rintro vc w9 ⟨oc, x9⟩; have sc := oc.sl)|(refine st_len (d := some 42) (E := strE) (l := []) rfl (SlE.ext (by exact fx) sc) ?_)|(refine zC (d := some 45) rfl (wakes16_spec _) ?_; rintro _ w10 ⟨rfl, x10⟩))
      exact x_ret rfl ⟨rfl, (x07 ()).trans (by exact fx)⟩
  · repeat' (first|(refine st_bin (d := some 32) (v := .int .i64 (andI la.sm.fee 16777215)) rfl rfl rfl ?_; rw [← hF])|(refine st_fixV (d := some 37) (.bool true) rfl (congrArg (fun b => some (Value.bool (!b))) (decide_eq_false hr)) ?_)|(first|refine go1 ?_|refine zg (fun _ _=>?_)|refine zi (fun _ _=>?_))|(refine zC (d := some 36) rfl (rules_spec (M := M) (l := l) (cs := txCs t iv ov) (t := t) Fe _ (G7.ext (by exact fx)) (hMx (by exact fx)) (R.ext t7 (by exact fx)) hsm (by omega) hfl9) ?_; rintro _ w8 ⟨rfl, x8⟩)|(refine zC (d := some 45) rfl (wakes16_spec _) ?_; rintro _ w10 ⟨rfl, x10⟩))
    exact x_ret rfl ⟨rfl, (x07 ()).trans (by exact fx)⟩
end Go.Proofs.YteggaepppahefaaGreat
end
section
namespace Go.K
open Go
theorem pt_ext {p q : Pt} (h1 : p.s = q.s) (h2 : p.i = q.i) : p = q := by cases p; cases q; simp_all
theorem tin_ext {x y : TIn} (h1 : x.p.s = y.p.s) (h2 : x.p.i = y.p.i) (h3 : x.q = y.q) (h4 : x.wit = y.wit) : x = y := by
  have := pt_ext h1 h2
  cases x; cases y; simp_all
theorem tout_ext {x y : TOut} (h1 : x.v = y.v) (h2 : x.s = y.s) : x = y := by cases x; cases y; simp_all
theorem tx_ext {t u : Tx} (h1 : t.ver = u.ver) (h2 : t.lock = u.lock) (h3 : t.ins = u.ins) (h4 : t.outs = u.outs) : t = u := by cases t; cases u; simp_all
theorem take_eq {α : Type} {l m : List α} {i : Nat} (h : l.take i = m.take i) (hl : i < l.length) (hm : i < m.length) (e : l[i] = m[i]) : l.take (i + 1) = m.take (i + 1) := by
  rw [List.take_succ_eq_append_getElem hl, List.take_succ_eq_append_getElem hm, h, e]
theorem take_all {α : Type} {l m : List α} {i : Nat} (h : l.take i = m.take i) (hl : l.length ≤ i) (hm : m.length ≤ i) : l = m := by
  rwa [List.take_of_length_le hl, List.take_of_length_le hm] at h
end Go.K
end
