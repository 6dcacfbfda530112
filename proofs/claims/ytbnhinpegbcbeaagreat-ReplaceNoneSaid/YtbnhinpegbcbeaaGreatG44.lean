/- The walk of ReplaceNone. -/
import Derived.Test.YtbnhinpegbcbeaaGreatG43
set_option linter.unusedVariables false
set_option linter.unusedSimpArgs false
section
namespace Go.Proofs.YtbnhinpegbcbeaaGreat
open Go Go.K
theorem none_plain {l : List Ent} {t : Tx} (hn : (l.map (·.id)).Nodup) (hc : checkT t = 0) (hh : l.any (hitE t) = false) : needN l t = 0 ∧ needE l t = 0 ∧ rulesL l t 0 = 0 ∧ idsOf l (evL l t) = [] := by
  have h0 : ¬ checkT t ≠ 0 := by simp [hc]
  refine ⟨by unfold needN; rw [if_neg h0, if_pos hh], by unfold needE; rw [if_neg h0, if_pos hh], ?_, ev_none hn hh⟩
  unfold rulesL
  have hg : ¬ goodB 0 = false := by rw [show goodB 0 = true by rw [goodB_iff]; omega]; decide
  rw [if_neg h0, if_neg (by simpa using hg), if_neg, if_pos hh]
  rw [List.any_eq_true]
  rintro ⟨x, hx, h⟩
  rw [List.any_eq_false] at hh
  rw [Bool.and_eq_true] at h
  exact hh x hx h.1
attribute [local irreducible] regK codeK retK KOp.wp K.Spec u32 leS vnS str zero32 sha2 encT idT sizeT checkT grantB idN stepR workL reachE findI dropG addG needN needE rulesL enoughL confL evL idsOf goneF cmpR hitE inB aboveL belowL
set_option maxHeartbeats 4000000 in
theorem rnone_law {v : Value} {cs : List Value} {sc : List ActP} {la : ActP} (w : World) (hs : SlR actpR [] w v sc) (ha : actpR.rel [] w cs la) : K.Spec Tryz.prog F.kedgelaw16_ReplaceNone [v, .agg cs.toArray] w fun r w' => r = .bool true ∧ Ext w w' := by
  obtain ⟨fv, rfl, q1, q2, q3⟩ := ha
  refine s_kedgelaw16_ReplaceNone rfl ?_
  unfold k_kedgelaw16_ReplaceNone
  refine ox ?_
  repeat' (first|(first|refine go1 ?_|refine zg (fun _ _=>?_)|refine zi (fun _ _=>?_))|(refine zD (d := some 3) rfl rfl (fun bp wp xp ap (rp : Row wp ⟨bp, 0, none⟩ (actpCs la fv)) hp0=>?_))|(refine zC (d := some 19) rfl (filled16_spec (sc := sc) _ (SlR.ext hs (by exact fx))) ?_; rintro _ w4 ⟨g, M, u, l, rfl, G4, u4, hl, hfl, x4⟩))
  have hM4 := G4.lt
  have hB4 := G4.base
  have sp := xp.size
  have hid32 : ∀ x ∈ l, x.id.size = 32 := fun x hx => by rw [(G4.ok x hx).id]; exact idT_size _
  have q14 : SlR u8R M w4 fv la.sm.frm := (q1.ext xp).step x4 (by simp) (fun b hb => .inr (hB4 b hb))
  repeat' (first|(first|refine go1 ?_|refine zg (fun _ _=>?_)|refine zi (fun _ _=>?_))|(refine zC (d := some 24) rfl (of16_spec (M := M) (l := l) (cs := actpCs la fv) (a := la) _ (u4.ext (by exact fx)) ⟨fv, rfl, q14.ext (by exact fx), q2, q3⟩ (by omega) hid32 hM4) ?_; rintro _ w5 ⟨ds, t, rfl, ho, hsm, x5⟩))
  have s5 := x5.size
  have hM5 : ∀ b ∈ M, b < w5.heap.size := fun b hb => by have := hM4 b hb; omega
  have t5 : txR.rel M w5 ds t := txO.rel ho hM4
  have o1 := ho.one
  obtain ⟨iv, ov, rfl, -⟩ := ho
  refine zE (d' := 7) (fun _=>rfl) rfl rfl o1 (fun b7 w7 x7 a7 r7 hb7=>?_)
  have G7 := (G4.r.ext x5).ext x7
  have u7 := (u4.ext x5).ext x7
  have t7 := R.ext t5 x7
  have hM7 : ∀ b ∈ M, b < w7.heap.size := fun b hb => by have := hM5 b hb; have := x7.size; omega
  have x07 : Unit → Ext w w7 := fun _ => ((xp.trans x4).trans x5).trans x7
  have hE := G4.ok
  have hnd := G4.nodup
  clear G4 u4 t5 x4 x5 x7 xp ap rp q14
  have hMx : ∀ {w'}, Ext w7 w' → ∀ b ∈ M, b < w'.heap.size := fun x b hb => Nat.lt_of_lt_of_le (hM7 b hb) x.size
  have hfl9 : ∀ x ∈ l, x.fee ≤ 1000000000000 := fun x hx => by have := hfl x hx; omega
  have hcl := idsOf_le1 l (confL l t)
  have hap := G7.apart
  repeat' (first|refine go1 ?_|refine zg (fun _ _=>?_)|refine zi (fun _ _=>?_))
  refine zC (d := some 27) rfl (conflicts_spec (M := M) (N := M) (l := l) (cs := txCs t iv ov) (t := t) _ (G7.ext (by exact fx)) (hMx (by exact fx)) (R.ext t7 (by exact fx)) hsm.ins (by omega)) ?_
  rintro vc w8 ⟨oc, x8⟩
  have sc8 := oc.sl
  have x78 : Ext w7 w8 := by exact fx
  have x08 : Unit → Ext w w8 := fun _ => (x07 ()).trans x78
  have G8 := G7.ext x78
  have t8 := R.ext t7 x78
  have r8 := Row.ext x78 r7
  have hM8 : ∀ {w'}, Ext w8 w' → ∀ b ∈ M, b < w'.heap.size := fun x b hb => hMx (x78.trans x) b hb
  clear x78 x8 oc G7 t7 r7 u7 a7 x07 hMx
  repeat (fail_if_success (refine c_cutV (a := .seq (.reg false (.cons ⟨some 28, _, _⟩ _)) _) (fun (_ : Nat) _ => True) (fun _ => []) ?_ ?_)); (first|refine go1 ?_|refine zg (fun _ _=>?_)|refine zi (fun _ _=>?_))
  refine c_cutV (a := .seq (.reg false (.cons ⟨some 28, _, _⟩ _)) _) (fun (_ : Nat) w' => Ext w8 w') (fun _ => [(5, .pointer (some ⟨g, 0, none⟩)), (7, .pointer (some ⟨b7, 0, none⟩)), (8, vc)]) ?_ ?_
  · by_cases hc : checkT t = 0
    · by_cases hh : l.any (hitE t) = false
      · obtain ⟨n1, n2, n3, n4⟩ := none_plain hnd hc hh
        rw [conf_none hh] at sc8
        repeat' (first|(first|refine go1 ?_|refine zg (fun _ _=>?_)|refine zi (fun _ _=>?_))|(apply zO; focus((conv=>lhs;whnf)<;>(first|with_reducible exact rfl|(refine congrArg Value.bool ?_;decide))))|(refine zC (d := some 29) rfl (rcheck_spec (M := M) (cs := txCs t iv ov) (t := t) _ (R.ext t8 (by exact fx)) hsm) ?_; rintro _ w9 ⟨rfl, x9⟩; rw [hc])|(refine st_len (d := some 33) (E := strE) (l := []) rfl (SlE.ext (by exact fx) sc8) ?_)|(refine zC (d := some 39) rfl (need_spec (M := M) (l := l) (cs := txCs t iv ov) (t := t) _ (G8.ext (by exact fx)) (hM8 (by exact fx)) (R.ext t8 (by exact fx)) hsm (by omega) hfl9) ?_; rintro _ w10 ⟨rfl, x10⟩; rw [n1, n2])|(refine zC (d := some 51) rfl (rules_spec (M := M) (l := l) (cs := txCs t iv ov) (t := t) 0 _ (G8.ext (by exact fx)) (hM8 (by exact fx)) (R.ext t8 (by exact fx)) hsm (by omega) hfl9) ?_; rintro _ w11 ⟨rfl, x11⟩; rw [n3])|(refine zC (d := some 57) rfl (evicted_spec (M := M) (N := M) (l := l) (cs := txCs t iv ov) (t := t) _ (G8.ext (by exact fx)) (hM8 (by exact fx)) (R.ext t8 (by exact fx)) hsm.ins (by omega)) ?_; rw [n4]; rintro ve w12 ⟨oe, x12⟩; have se := oe.sl)|(refine st_len (d := some 58) (E := strE) (l := []) rfl (SlE.ext (by exact fx) se) ?_))
        all_goals exact ⟨0, ⟨rfl, rfl, rfl, trivial⟩, by exact fx⟩
      · have hne : ¬ (((idsOf l (confL l t)).length : Nat) : Int) = 0 := fun h => hh (conf_len0.1 (by omega))
        repeat' (first|(refine st_fixV (d := some 34) (.bool false) rfl (congrArg (fun b => some (Value.bool b)) (decide_eq_false hne)) ?_)|(first|refine go1 ?_|refine zg (fun _ _=>?_)|refine zi (fun _ _=>?_))|(apply zO; focus((conv=>lhs;whnf)<;>(first|with_reducible exact rfl|(refine congrArg Value.bool ?_;decide))))|(refine zC (d := some 29) rfl (rcheck_spec (M := M) (cs := txCs t iv ov) (t := t) _ (R.ext t8 (by exact fx)) hsm) ?_; rintro _ w9 ⟨rfl, x9⟩; rw [hc])|(refine st_len (d := some 33) (E := strE) (l := idsOf l (confL l t)) rfl (SlE.ext (by exact fx) sc8) ?_))
        all_goals exact ⟨0, ⟨rfl, rfl, rfl, trivial⟩, by exact fx⟩
    · repeat' (first|(refine st_fixV (d := some 30) (.bool false) rfl (congrArg (fun b => some (Value.bool b)) (decide_eq_false hc)) ?_)|(first|refine go1 ?_|refine zg (fun _ _=>?_)|refine zi (fun _ _=>?_))|(refine zC (d := some 29) rfl (rcheck_spec (M := M) (cs := txCs t iv ov) (t := t) _ (R.ext t8 (by exact fx)) hsm) ?_; rintro _ w9 ⟨rfl, x9⟩))
      all_goals exact ⟨0, ⟨rfl, rfl, rfl, trivial⟩, by exact fx⟩
  rintro _ ρ9 w9 x9
  have x09 : Unit → Ext w w9 := fun _ => (x08 ()).trans x9
  have G9 := G8.ext x9
  have t9 := R.ext t8 x9
  have r9 := Row.ext x9 r8
  have sc9 := SlE.ext x9 sc8
  have hM9 : ∀ {w'}, Ext w9 w' → ∀ b ∈ M, b < w'.heap.size := fun x b hb => hM8 (x9.trans x) b hb
  clear x9 x08 G8 t8 r8 sc8
  repeat' (first|refine go1 ?_|refine zg (fun _ _=>?_)|refine zi (fun _ _=>?_))
  refine zC (d := some 62) rfl (all_spec (M := M) (l := l) _ (G9.ext (by exact fx)) (hM9 (by exact fx)) (by omega)) ?_
  rintro va w10 ⟨oa, x10⟩
  have sa : SlR entR [] w10 va l := (oa.sub (M' := []) (by simp)).sl (by simp)
  have x910 : Ext w9 w10 := by exact fx
  clear oa x10
  repeat' (first|(first|refine go1 ?_|refine zg (fun _ _=>?_)|refine zi (fun _ _=>?_))|(refine zL rfl (fun h => ?_) (fun h => ?_))|(refine zG (d := some 63) (E := entR) (M := []) (l := l) rfl (SlR.ext sa (by exact fx)) ?_)|(refine c_loopV (fun (i : Nat) w' => Ext w10 w' ∧ i ≤ l.length) (fun i => [(5, .pointer (some ⟨g, 0, none⟩)), (7, .pointer (some ⟨b7, 0, none⟩)), (8, vc), (62, va), (63, .int .i64 (l.length : Nat)), (64, .int .i64 i)]) (fun i => l.length - i) 0 ⟨rfl, rfl, rfl, rfl, rfl, rfl, trivial⟩ ⟨Ext.refl _, by omega⟩ ?_; rintro i ρ w11 ⟨x11, hi⟩))
  · have hil : i < l.length := by omega
    refine st_elemR (d := some 66) (E := entR) (M := []) rfl rfl (n := i) (l := l) (sa.ext x11) rfl hil (fun ad cs r5 he => ?_)
    obtain ⟨iv2, ov2, rfl, o1, o2, o3⟩ := he
    have i1 := o1.one
    have i2 := o2.one
    have hxs := chk_sm (hE _ (List.getElem_mem hil)).check
    obtain ⟨h0, -⟩ := radd_grant (hE _ (List.getElem_mem hil)).check
    have hcs := conf_self hap hil h0
    have hes := ev_self hnd hap hil h0
    have hbl := idsOf_le1 l (belowL l l[i].id)
    have hhit : ∀ j (hj : j < t.ins.length) k (hk : k < l[i].tx.ins.length), t.ins[j].p = l[i].tx.ins[k].p → inB (idsOf l (confL l t)) l[i].id = true := fun j hj k hk e => by
      rw [inB_iff]
      refine mem_conf.2 ⟨l[i], List.getElem_mem hil, ?_, rfl⟩
      unfold hitE
      exact List.any_eq_true.2 ⟨_, List.getElem_mem hk, List.any_eq_true.2 ⟨_, List.getElem_mem hj, decide_eq_true e.symm⟩⟩
    generalize l[i] = x at *
    repeat' (first|refine go1 ?_|refine zg (fun _ _=>?_)|refine zi (fun _ _=>?_))
    refine zE (d' := 12) (fun _=>rfl) rfl rfl (by simp [entCs, i1, i2]; exact ⟨rfl, rfl, rfl, rfl, rfl⟩) (fun b12 w12 x12 a12 (r12 : Row w12 ⟨b12, 0, none⟩ (entCs x iv2 ov2)) hb12=>?_)
    have x112 : Unit → Ext w10 w12 := fun _ => x11.trans x12
    have G12 := ((G9.ext x910).ext x11).ext x12
    have t12 := R.ext (R.ext (R.ext t9 x910) x11) x12
    have r712 := Row.ext x12 (Row.ext x11 (Row.ext x910 r9))
    have sc12 := SlE.ext x12 (SlE.ext x11 (SlE.ext x910 sc9))
    have q1 := o1.ext x12
    have q2 := o2.ext x12
    have hM12 : ∀ {w'}, Ext w12 w' → ∀ b ∈ M, b < w'.heap.size := fun y b hb => hM9 (x910.trans ((x112 ()).trans y)) b hb
    have tx12 : txR.rel [] w12 (txCs x.tx iv2 ov2) x.tx := ⟨iv2, ov2, rfl, q1, q2, o3.1, o3.2.1⟩
    clear x11 x12 r5 o1 o2 q2
    repeat' (first|(refine st_joinV (b := .cons ⟨some 85, _, _⟩ _) (fun (p : Value) w' => Ext w12 w' ∧ SlE strE w' p (idsOf l (belowL l x.id))) (fun p => [(5, .pointer (some ⟨g, 0, none⟩)), (7, .pointer (some ⟨b7, 0, none⟩)), (8, vc), (12, .pointer (some ⟨b12, 0, none⟩)), (62, va), (63, .int .i64 (l.length : Nat)), (64, .int .i64 i), (77, .bool false), (81, p), (82, .pointer (some ⟨g, 0, none⟩)), (84, .string x.id)]) ?_ ?_)|(refine st_joinV (b := .join (.cons ⟨some 75, _, _⟩ _) _) (fun (p : Value × Value) w' => Ext w12 w' ∧ SlE strE w' p.1 [x.id] ∧ SlE strE w' p.2 [x.id]) (fun p => [(5, .pointer (some ⟨g, 0, none⟩)), (7, .pointer (some ⟨b7, 0, none⟩)), (8, vc), (12, .pointer (some ⟨b12, 0, none⟩)), (62, va), (63, .int .i64 (l.length : Nat)), (64, .int .i64 i), (71, p.1), (74, p.2)]) ?_ ?_)|(rintro ⟨p1, p2⟩ ρ8 w13 ⟨x13, s1, s2⟩; simp only at s1 s2; try dsimp only)|(rintro p ρ8 w14 ⟨x14, s3⟩; try dsimp only)|(exact ⟨⟨vk, .slice (some ⟨bz, 0, none⟩) 1 1⟩, ⟨rfl, rfl, rfl, rfl, rfl, rfl, rfl, rfl, rfl, trivial⟩, by exact fx, SlE.ext (by exact fx) sk, SlE.ext (by exact fx) sz⟩)|(exact ⟨vj, ⟨rfl, rfl, rfl, rfl, rfl, rfl, rfl, rfl, rfl, rfl, rfl, trivial⟩, by exact fx, SlE.ext (by exact fx) sj⟩)|(first|refine go1 ?_|refine zg (fun _ _=>?_)|refine zi (fun _ _=>?_))|(apply zO; focus((conv=>lhs;whnf)<;>(first|with_reducible exact rfl|(refine congrArg Value.bool ?_;decide))))|(refine zB ?_ ?_)|(refine zI (d := some 74) (cs := [.string x.id]) rfl (fun bz wz xz az hbz => ?_); have sz := SlE.new (E := strE) (l := [x.id]) az rfl (Nat.le_refl _))|(refine zC (d := some 71) rfl (conflicts_spec (M := M) (N := []) (l := l) (cs := txCs x.tx iv2 ov2) (t := x.tx) _ (G12.ext (by exact fx)) (hM12 (by exact fx)) (R.ext tx12 (by exact fx)) hxs.ins (by omega)) ?_; rw [hcs]; rintro vk wk ⟨ok, xk⟩; have sk := ok.sl)|(refine zC (d := some 75) rfl (equal_true (l := [x.id]) (m := [x.id]) _ (SlE.ext (by exact fx) s1) (SlE.ext (by exact fx) s2) rfl (by simp)) ?_; rintro _ we ⟨rfl, xe⟩)|(refine zC (d := some 81) rfl (evicted_spec (M := M) (N := []) (l := l) (cs := txCs x.tx iv2 ov2) (t := x.tx) _ (G12.ext (by exact fx)) (hM12 (by exact fx)) (R.ext tx12 (by exact fx)) hxs.ins (by omega)) ?_; rw [hes]; rintro vj wj ⟨oj, xj⟩; have sj := oj.sl)|(refine zC (d := some 85) rfl (pbelow_spec (M := M) (l := l) x.id _ (G12.ext (by exact fx)) (hM12 (by exact fx)) (by omega)) ?_; rintro vb wb ⟨ob, xb⟩; have sb := ob.sl)|(refine zC (d := some 86) rfl (equal_true (l := idsOf l (belowL l x.id)) (m := idsOf l (belowL l x.id)) _ (SlE.ext (by exact fx) s3) (SlE.ext (by exact fx) sb) rfl (by omega)) ?_; rintro _ wf ⟨rfl, xf⟩))
    have x12f : Ext w12 wf := by exact fx
    have x10f : Unit → Ext w10 wf := fun _ => (x112 ()).trans x12f
    have hti : SlR inR M w12 iv t.ins := by
      obtain ⟨a, b, e, h, -⟩ := t12
      simp only [txCs, List.cons.injEq, and_true, true_and] at e
      rw [e.1]; exact h
    have hb1 := hxs.ins
    have hb2 := hsm.ins
    have htf := SlR.ext hti x12f
    have qf := SlR.ext q1 x12f
    have r12f := Row.ext x12f r12
    have scf := SlE.ext x12f sc12
    clear x112 x12f xf xb x14 xe x13 s1 s2 s3 ob sb hti q1 r12 sc12 r712 tx12 G12 a12
    repeat' (first|(first|refine go1 ?_|refine zg (fun _ _=>?_)|refine zi (fun _ _=>?_))|(refine zL rfl (fun h => ?_) (fun h => ?_))|(refine zG (d := some 91) (E := inR) (M := M) (l := t.ins) rfl (SlR.ext htf (by exact fx)) ?_)|(refine c_loopV (fun (j : Nat) w' => Ext wf w' ∧ j ≤ t.ins.length) (fun j => [(5, .pointer (some ⟨g, 0, none⟩)), (7, .pointer (some ⟨b7, 0, none⟩)), (8, vc), (12, .pointer (some ⟨b12, 0, none⟩)), (62, va), (63, .int .i64 (l.length : Nat)), (64, .int .i64 i), (90, iv), (91, .int .i64 (t.ins.length : Nat)), (92, .int .i64 j)]) (fun j => t.ins.length - j) 0 ⟨rfl, rfl, rfl, rfl, rfl, rfl, rfl, rfl, rfl, rfl, trivial⟩ ⟨Ext.refl _, by omega⟩ ?_; rintro j ρ10 w20 ⟨x20, hj⟩))
    · have hjl : j < t.ins.length := by omega
      have hhj := hhit j hjl
      refine st_elemR (d := some 94) (E := inR) (M := M) rfl rfl (n := j) (l := t.ins) (htf.ext x20) rfl hjl (fun ad cs r5 he => ?_)
      obtain ⟨wv, rfl, hw, -⟩ := he
      obtain ⟨bs1, cp1, rfl⟩ := hw.form
      generalize t.ins[j] = y at *
      repeat' (first|(first|refine go1 ?_|refine zg (fun _ _=>?_)|refine zi (fun _ _=>?_))|(refine zE (d' := 14) (fun _=>rfl) rfl rfl rfl (fun b14 w21 x21 a21 (r21 : Row w21 ⟨b14, 0, none⟩ (inCs y (.slice bs1 y.wit.length cp1))) hb14=>?_)))
      have xff : Unit → Ext wf w21 := fun _ => x20.trans x21
      have q21 := SlR.ext (SlR.ext qf x20) x21
      have r1221 := Row.ext x21 (Row.ext x20 r12f)
      have sc21 := SlE.ext x21 (SlE.ext x20 scf)
      clear x20 x21 r5 a21
      repeat' (first|(first|refine go1 ?_|refine zg (fun _ _=>?_)|refine zi (fun _ _=>?_))|(refine zL rfl (fun h => ?_) (fun h => ?_))|(refine zG (d := some 99) (E := inR) (M := []) (l := x.tx.ins) rfl (SlR.ext q21 (by exact fx)) ?_)|(refine c_loopV (fun (k : Nat) w' => Ext w21 w' ∧ k ≤ x.tx.ins.length) (fun k => [(5, .pointer (some ⟨g, 0, none⟩)), (7, .pointer (some ⟨b7, 0, none⟩)), (8, vc), (12, .pointer (some ⟨b12, 0, none⟩)), (14, .pointer (some ⟨b14, 0, none⟩)), (62, va), (63, .int .i64 (l.length : Nat)), (64, .int .i64 i), (90, iv), (91, .int .i64 (t.ins.length : Nat)), (92, .int .i64 j), (98, iv2), (99, .int .i64 (x.tx.ins.length : Nat)), (100, .int .i64 k)]) (fun k => x.tx.ins.length - k) 0 ⟨rfl, rfl, rfl, rfl, rfl, rfl, rfl, rfl, rfl, rfl, rfl, rfl, rfl, rfl, trivial⟩ ⟨Ext.refl _, by omega⟩ ?_; rintro k ρ11 w22 ⟨x22, hk⟩))
      · have hkl : k < x.tx.ins.length := by omega
        have hhk := hhj k hkl
        refine st_elemR (d := some 102) (E := inR) (M := []) rfl rfl (n := k) (l := x.tx.ins) (q21.ext x22) rfl hkl (fun ad cs r6 he => ?_)
        obtain ⟨wv2, rfl, hw2, -⟩ := he
        obtain ⟨bs2, cp2, rfl⟩ := hw2.form
        generalize x.tx.ins[k] = z at *
        by_cases hp : y.p = z.p
        · have hin := hhk hp
          have hpd := (pt_dec y.p z.p).trans (decide_eq_true hp)
          repeat' (first|(refine st_fixV (d := some 108) (.bool true) rfl (congrArg (fun b => some (Value.bool b)) hpd) ?_)|(first|refine go1 ?_|refine zg (fun _ _=>?_)|refine zi (fun _ _=>?_))|(apply zO; focus((conv=>lhs;whnf)<;>(first|with_reducible exact rfl|(refine congrArg Value.bool ?_;decide))))|(refine zE (d' := 16) (fun _=>rfl) rfl rfl rfl (fun b16 w23 x23 a23 (r23 : Row w23 ⟨b16, 0, none⟩ (inCs z (.slice bs2 z.wit.length cp2))) hb16=>?_))|(refine zC (d := some 113) rfl (contains16 (l := idsOf l (confL l t)) x.id _ (SlE.ext (by exact fx) sc21) (by omega)) ?_; rintro _ _ ⟨rfl, rfl⟩; rw [hin]))
          exact ⟨k + 1, ⟨rfl, rfl, rfl, rfl, rfl, rfl, rfl, rfl, rfl, rfl, rfl, rfl, rfl, rfl, trivial⟩, ⟨by exact fx, by omega⟩, by omega⟩
        · have hpd := (pt_dec y.p z.p).trans (decide_eq_false hp)
          repeat' (first|(refine st_fixV (d := some 108) (.bool false) rfl (congrArg (fun b => some (Value.bool b)) hpd) ?_)|(first|refine go1 ?_|refine zg (fun _ _=>?_)|refine zi (fun _ _=>?_))|(apply zO; focus((conv=>lhs;whnf)<;>(first|with_reducible exact rfl|(refine congrArg Value.bool ?_;decide))))|(refine zE (d' := 16) (fun _=>rfl) rfl rfl rfl (fun b16 w23 x23 a23 (r23 : Row w23 ⟨b16, 0, none⟩ (inCs z (.slice bs2 z.wit.length cp2))) hb16=>?_)))
          exact ⟨k + 1, ⟨rfl, rfl, rfl, rfl, rfl, rfl, rfl, rfl, rfl, rfl, rfl, rfl, rfl, rfl, trivial⟩, ⟨by exact fx, by omega⟩, by omega⟩
      · exact ⟨j + 1, ⟨rfl, rfl, rfl, rfl, rfl, rfl, rfl, rfl, rfl, rfl, trivial⟩, ⟨(xff ()).trans (by exact fx), by omega⟩, by omega⟩
    · exact ⟨i + 1, ⟨rfl, rfl, rfl, rfl, rfl, rfl, trivial⟩, ⟨(x10f ()).trans (by exact fx), by omega⟩, by omega⟩
  · repeat' (first|(first|refine go1 ?_|refine zg (fun _ _=>?_)|refine zi (fun _ _=>?_))|(refine zC (d := some 119) rfl (wakes16_spec _) ?_; rintro _ w12 ⟨rfl, x12⟩))
    exact x_ret rfl ⟨rfl, (x09 ()).trans (by exact fx)⟩
end Go.Proofs.YtbnhinpegbcbeaaGreat
end
