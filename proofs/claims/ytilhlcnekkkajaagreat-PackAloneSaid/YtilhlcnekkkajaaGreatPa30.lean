/- Contracts: may an entry be replaced; does a transaction spend what it may not; by the program. Contracts: the least fee, and the rules, by the program. -/
import Derived.Test.YtilhlcnekkkajaaGreatPa29
set_option linter.unusedVariables false
set_option linter.unusedSimpArgs false
section
namespace Go.Proofs.YtilhlcnekkkajaaGreat
open Go Go.K
theorem inS_inB (l : List ByteArray) (s : ByteArray) : inS l s = inB l s := by
  rw [Bool.eq_iff_iff, inS_iff, inB_iff]
theorem getE_ins {l : List Ent} (hE : ∀ x ∈ l, EntOk x) (s : ByteArray) : (getE l s).tx.ins.length ≤ 1000 := by
  by_cases h : hasE l s = true
  · exact (chk_sm (hE _ (has_mem h).1).check).ins
  · have h2 : (l.find? fun x => decide (x.id = s)) = none := by
      have h1 := find_any (p := fun x : Ent => decide (x.id = s)) (l := l)
      unfold hasE at h
      rw [← h1] at h
      exact Option.not_isSome_iff_eq_none.1 h
    unfold getE
    rw [h2]
    decide
attribute [local irreducible] regK codeK retK KOp.wp K.Spec u32 leS vnS str zero32 sha2 encT idT sizeT checkT grantB idN stepR workL reachE findI dropG addG aboveL belowL idsOf feeD sizeD cntS metL confL evL inS inB
theorem contains16 {v : Value} {l : List ByteArray} (a : ByteArray) (w : World) (hs : SlE strE w v l) (hn : l.length ≤ 1000000) : K.Spec Tryz.prog F.slices_Contains_L_string_string [v, .string a] w fun r w' => r = .bool (inB l a) ∧ w' = w :=
  spec_mono (containsS_spec a w hs (by omega)) fun r w' ⟨h1, h2⟩ => ⟨by rw [h1, ← inS_inB]; unfold inS; rfl, h2⟩
theorem sig1_hb : hasBody Tryz.prog F.replace_signals_1 = true := by kernel_rfl
theorem repl1_hb : hasBody Tryz.prog F.replace_replaceable_1 = true := by kernel_rfl
theorem sig1_spec (x : TIn) (wv : Value) (w : World) (hw : wv.oneCell' = true) : K.Spec Tryz.prog F.replace_signals_1 [.agg (inCs x wv).toArray] w fun r w' => r = .bool (decide (x.q < 4294967294)) ∧ Ext w w' := by
  refine s_replace_signals_1 rfl ?_
  unfold k_replace_signals_1
  refine oy ?_
  repeat' (first|(first|refine go1 ?_|refine zg (fun _ _=>?_)|refine zi (fun _ _=>?_))|(refine zD rfl rfl (fun bp wp xp ap (rp : Row wp ⟨bp, 0, none⟩ (inCs x wv)) hp0=>?_)))
  exact x_ret rfl ⟨rfl, by exact fx⟩
theorem signals_spec {N : List Nat} {cs : List Value} {t : Tx} (w : World) (ht : txR.rel N w cs t) (hs : t.ins.length ≤ 1000) : K.Spec Tryz.prog F.replace_signals [.agg cs.toArray] w fun r w' => r = .bool (sigT t) ∧ Ext w w' := by
  obtain ⟨iv, ov, rfl, hi, ho, hv⟩ := ht
  have tl : ∀ w1, Ext w w1 → Tells F.replace_signals_1 [] inR (fun cs => .agg cs.toArray) N w1 t.ins (fun x => decide (x.q < 4294967294)) := fun w1 x1 x _ w' cs x2 hc => by
    obtain ⟨bv, rfl, hw, _⟩ := hc
    exact sig1_spec x bv w' hw.one
  refine s_replace_signals rfl ?_
  unfold k_replace_signals
  refine oy ?_
  repeat' (first|(first|refine go1 ?_|refine zg (fun _ _=>?_)|refine zi (fun _ _=>?_))|(refine zD rfl rfl (fun bp wp xp ap (rp : Row wp ⟨bp, 0, none⟩ (txCs t iv ov)) hp0=>?_))|(refine zC rfl (idxIn_any (l := t.ins) (M := N) (g := F.replace_signals_1) (capl := []) _ sig1_hb (SlR.ext hi (by exact fx)) (by omega) (tl _ (by exact fx))) ?_; rintro _ w2 ⟨rfl, x2⟩))
  exact x_ret rfl ⟨rfl, by exact fx⟩
theorem repl1_spec {g b2 : Nat} {M : List Nat} {l : List Ent} (s : ByteArray) (w : World) (hG : GrR w g M l) (hM : ∀ b ∈ M, b < w.heap.size) (hr : Row w ⟨b2, 0, none⟩ [.pointer (some ⟨g, 0, none⟩)]) :
    K.Spec Tryz.prog F.replace_replaceable_1 [.string s, .pointer (some ⟨b2, 0, none⟩)] w fun r w' => r = .bool (sigT (getE l s).tx) ∧ Ext w w' := by
  have hE := hG.ok
  have hsm := getE_ins hE s
  refine s_replace_replaceable_1 rfl ?_
  unfold k_replace_replaceable_1
  refine oy ?_
  repeat' (first|(first|refine go1 ?_|refine zg (fun _ _=>?_)|refine zi (fun _ _=>?_))|(refine zC (d := some 9) rfl (get_spec (M := M) s _ (hG.ext (by exact fx)) (fun b hb => Nat.lt_of_lt_of_le (hM b hb) (Ext.size (by exact fx)))) ?_; rintro v5 w5 ⟨ds, rfl, e5, x5⟩; obtain ⟨iv, ov, rfl, o1, o2, o3⟩ := e5; have i1 := o1.one; have i2 := o2.one)|(refine zE (d' := 4) (fun _=>rfl) rfl rfl (by simp [entCs, i1, i2]; exact ⟨rfl, rfl, rfl, rfl, rfl⟩) (fun b6 w6 x6 a6 (r6 : Row w6 ⟨b6, 0, none⟩ (entCs (getE l s) iv ov)) hb6=>?_))|(refine zC (d := some 14) rfl (signals_spec (N := []) (cs := txCs (getE l s).tx iv ov) (t := (getE l s).tx) _ ⟨iv, ov, rfl, SlR.ext ((o1.sub (M' := []) (by simp)).sl (by simp)) (by exact fx), SlR.ext ((o2.sub (M' := []) (by simp)).sl (by simp)) (by exact fx), o3.1, o3.2.1⟩ hsm) ?_; rintro _ w7 ⟨rfl, x7⟩))
  exact x_ret rfl ⟨rfl, by exact fx⟩
set_option maxHeartbeats 1000000 in
theorem repl_spec {g : Nat} {M : List Nat} {l : List Ent} (s : ByteArray) (w : World) (hG : GrR w g M l) (hM : ∀ b ∈ M, b < w.heap.size) (hl : l.length ≤ 1000) :
    K.Spec Tryz.prog F.replace_replaceable [.pointer (some ⟨g, 0, none⟩), .string s] w fun r w' => r = .bool (mayE l (getE l s)) ∧ Ext w w' := by
  have hE := hG.ok
  have hsm := getE_ins hE s
  have hle := idsOf_le1 l (aboveL l (getE l s).tx)
  refine s_replace_replaceable rfl ?_
  unfold k_replace_replaceable
  refine oy ?_
  repeat' (first|(first|refine go1 ?_|refine zg (fun _ _=>?_)|refine zi (fun _ _=>?_))|(refine zD rfl rfl (fun b2 wg xg ag (rg : Row wg ⟨b2, 0, none⟩ [.pointer (some ⟨g, 0, none⟩)]) hg0=>?_))|(refine zC (d := some 10) rfl (get_spec (M := M) s _ (hG.ext (by exact fx)) (fun b hb => Nat.lt_of_lt_of_le (hM b hb) (Ext.size (by exact fx)))) ?_; rintro v5 w5 ⟨ds, rfl, e5, x5⟩; obtain ⟨iv, ov, rfl, o1, o2, o3⟩ := e5; have i1 := o1.one; have i2 := o2.one)|(refine zE (d' := 5) (fun _=>rfl) rfl rfl (by simp [entCs, i1, i2]; exact ⟨rfl, rfl, rfl, rfl, rfl⟩) (fun b6 w6 x6 a6 (r6 : Row w6 ⟨b6, 0, none⟩ (entCs (getE l s) iv ov)) hb6=>?_); have q1 := SlR.ext ((o1.sub (M' := []) (by simp)).sl (by simp)) x6; have q2 := SlR.ext ((o2.sub (M' := []) (by simp)).sl (by simp)) x6; clear o1 o2)|(refine zC (d := some 15) rfl (signals_spec (N := []) (cs := txCs (getE l s).tx iv ov) (t := (getE l s).tx) _ ⟨iv, ov, rfl, SlR.ext q1 (by exact fx), SlR.ext q2 (by exact fx), o3.1, o3.2.1⟩ hsm) ?_; rintro _ w7 ⟨rfl, x7⟩)|(refine zK rfl (fun h => ?_) (fun h => ?_))|(refine zC (d := some 20) rfl (pabove_spec (M := M) (N := []) (l := l) (cs := txCs (getE l s).tx iv ov) (t := (getE l s).tx) _ (hG.ext (by exact fx)) (fun b hb => Nat.lt_of_lt_of_le (hM b hb) (Ext.size (by exact fx))) ⟨iv, ov, rfl, SlR.ext q1 (by exact fx), SlR.ext q2 (by exact fx), o3.1, o3.2.1⟩ hsm hl) ?_; rintro va w8 ⟨oa, x8⟩; have sa : SlR strR [] w8 va (idsOf l (aboveL l (getE l s).tx)) := SlE.toR (F := strE) (ag := false) oa.sl (by simp); have tl : Tells F.replace_replaceable_1 [.pointer (some ⟨b2, 0, none⟩)] strR (fun cs => cs.headD undef) [] w8 (idsOf l (aboveL l (getE l s).tx)) (fun s => sigT (getE l s).tx) := (fun x hx w' cs x2 hc => by obtain rfl : cs = [Value.string x] := hc; exact repl1_spec (M := M) x w' (hG.ext (Ext.trans (by exact fx) x2)) (fun b hb => Nat.lt_of_lt_of_le (hM b hb) (Ext.size (Ext.trans (by exact fx) x2))) (rg.ext (Ext.trans (by exact fx) x2))))|(refine zC (d := some 22) rfl (idxStr_any (l := idsOf l (aboveL l (getE l s).tx)) (M := []) (g := F.replace_replaceable_1) (capl := [_]) _ repl1_hb sa (by omega) tl) ?_; rintro _ w9 ⟨rfl, x9⟩))
  all_goals
    refine x_ret rfl ⟨congrArg Value.bool ?_, by exact fx⟩
    unfold mayE
    simp only [h, Bool.true_or, Bool.false_or]
set_option maxHeartbeats 2000000 in
theorem fresh_spec {g : Nat} {M N : List Nat} {l : List Ent} {cs : List Value} {t : Tx} {vc vg : Value} (w : World) (hG : GrR w g M l) (hM : ∀ b ∈ M, b < w.heap.size) (ht : txR.rel N w cs t) (hs : t.ins.length ≤ 1000) (hl : l.length ≤ 1000)
    (hc : SlE strE w vc (idsOf l (confL l t))) (hg : SlE strE w vg (idsOf l (evL l t))) :
    K.Spec Tryz.prog F.replace_fresh [.pointer (some ⟨g, 0, none⟩), .agg cs.toArray, vc, vg] w fun r w' => r = .bool (freshP l t) ∧ Ext w w' := by
  have hlc := idsOf_le1 l (confL l t)
  have hle := idsOf_le1 l (evL l t)
  obtain ⟨iv, ov, rfl, hi, ho, hv⟩ := ht
  obtain ⟨ids, hids⟩ : ∃ ids, ids = idsOf l (confL l t) := ⟨_, rfl⟩
  obtain ⟨gone, hgone⟩ : ∃ gone, gone = idsOf l (evL l t) := ⟨_, rfl⟩
  have hF : freshP l t = t.ins.any fun b => outHas l b.p && (inB gone b.p.s || !inB ids (spId l b.p)) := by rw [hids, hgone]; rfl
  rw [← hids] at hc hlc
  rw [← hgone] at hg hle
  rw [hF]
  refine s_replace_fresh rfl ?_
  unfold k_replace_fresh
  refine oy ?_
  repeat' (first|(first|refine go1 ?_|refine zg (fun _ _=>?_)|refine zi (fun _ _=>?_))|(refine zD rfl rfl (fun bt wt xt bt' (rt : Row wt ⟨bt, 0, none⟩ (txCs t iv ov)) hbt0=>?_))|(refine zG (d := some 17) (E := inR) (M := N) (l := t.ins) rfl (SlR.ext hi (by exact fx)) ?_)|(refine zL rfl (fun h => ?_) (fun h => ?_))|(refine c_loopV (fun (i : Nat) w' => Ext w w' ∧ i ≤ t.ins.length ∧ ∀ b ∈ t.ins.take i, (outHas l b.p && (inB gone b.p.s || !inB ids (spId l b.p))) = false) (fun i => [(0, .pointer (some ⟨g, 0, none⟩)), (2, vc), (3, vg), (16, iv), (17, .int .i64 (t.ins.length : Nat)), (18, .int .i64 i)]) (fun i => t.ins.length - i) 0 ⟨rfl, rfl, rfl, rfl, rfl, rfl, trivial⟩ ⟨xt, by simp, by simp⟩ ?_; clear xt; rintro i ρ w3 ⟨x3, hi3, hno⟩))
  · have hil : i < t.ins.length := by omega
    refine st_elemR (d := some 20) (E := inR) (M := N) rfl rfl (n := i) (l := t.ins) (hi.ext x3) rfl hil (fun ad cs r4 he => ?_)
    obtain ⟨wv, rfl, q1, q2, q3⟩ := he
    have i1 := q1.one
    have htk : ∀ {P : TIn → Prop}, (∀ b ∈ t.ins.take i, P b) → P t.ins[i] → ∀ b ∈ t.ins.take (i + 1), P b := fun h1 h2 b hb => by
      rw [List.take_succ_eq_append_getElem hil] at hb
      rcases List.mem_append.1 hb with h | h
      · exact h1 b h
      · simp at h; subst h; exact h2
    have hyes : ∀ {P : TIn → Bool}, P t.ins[i] = true → t.ins.any P = true := fun h => List.any_eq_true.2 ⟨_, List.getElem_mem hil, h⟩
    obtain ⟨B, hB⟩ : ∃ B, outHas l t.ins[i].p = B := ⟨_, rfl⟩
    obtain ⟨C, hC⟩ : ∃ C, inB gone t.ins[i].p.s = C := ⟨_, rfl⟩
    obtain ⟨D, hD⟩ : ∃ D, inB ids (spId l t.ins[i].p) = D := ⟨_, rfl⟩
    cases B <;> cases C <;> cases D
    all_goals repeat' (first|(first|refine go1 ?_|refine zg (fun _ _=>?_)|refine zi (fun _ _=>?_))|(refine zE (d' := 10) (fun _=>rfl) rfl rfl (by simp [inCs, i1]; exact ⟨rfl, rfl, rfl⟩) (fun b6 w6 x6 a6 (r6 : Row w6 ⟨b6, 0, none⟩ (inCs t.ins[i] wv)) hb6=>?_))|(refine zC (d := some 26) rfl (out_spec (M := M) (l := l) t.ins[i].p q2 _ (hG.ext (by exact fx)) (fun b hb => Nat.lt_of_lt_of_le (hM b hb) (Ext.size (by exact fx)))) ?_; rintro _ w7 ⟨o, rfl, -, x7⟩; rw [hB])|(refine zE (d' := 11) (vs := outCs o) (fun _=>rfl) rfl rfl rfl (fun b8 w8 x8 a8 r8 hb8=>?_))|(refine zM rfl (fun h => ?_) (fun h => ?_))|(refine zC (d := some 35) rfl (spender_spec (M := M) (l := l) t.ins[i].p _ (hG.ext (by exact fx))) ?_; rintro _ w9 ⟨rfl, x9⟩)|(refine zC (d := some 42) rfl (contains16 (l := gone) t.ins[i].p.s _ (SlE.ext (by exact fx) hg) (by omega)) ?_; rintro _ _ ⟨rfl, rfl⟩; rw [hC])|(refine zC (d := some 46) rfl (contains16 (l := ids) (spId l t.ins[i].p) _ (SlE.ext (by exact fx) hc) (by omega)) ?_; rintro _ _ ⟨rfl, rfl⟩; rw [hD])|(refine zK rfl (fun h => ?_) (fun h => ?_)))
    all_goals first
      | exact ⟨i + 1, ⟨rfl, rfl, rfl, rfl, rfl, rfl, trivial⟩, ⟨by exact fx, by omega, htk hno (by rw [hB, hC, hD]; rfl)⟩, by omega⟩
      | exact ⟨i + 1, ⟨rfl, rfl, rfl, rfl, rfl, rfl, trivial⟩, ⟨by exact fx, by omega, htk hno (by rw [hB]; rfl)⟩, by omega⟩
      | (rw [show (t.ins.any fun b => outHas l b.p && (inB gone b.p.s || !inB ids (spId l b.p))) = true from hyes (by rw [hB, hC, hD]; rfl)]
         exact x_ret rfl ⟨rfl, by exact fx⟩)
  · have e : (t.ins.any fun b => outHas l b.p && (inB gone b.p.s || !inB ids (spId l b.p))) = false := by
      rw [List.take_of_length_le (by omega)] at hno
      exact List.any_eq_false.2 (fun b hb => by rw [hno b hb]; simp)
    rw [e]
    exact x_ret rfl ⟨rfl, x3⟩
end Go.Proofs.YtilhlcnekkkajaaGreat
end
section
namespace Go.Proofs.YtilhlcnekkkajaaGreat
open Go Go.K
section
variable {P : Program} {d : Option Tmp} {r : KR} {K : Env → World → Prop} {ρ : Env} {w : World}
theorem st_quoU {x y : Operand} {n m : Nat} (hx : ev ρ x = .int .u64 (n : Nat)) (hy : ev ρ y = .int .u64 (m : Nat)) (h0 : 0 < m) (hn : n < 18446744073709551616) (k : regK P r K (put ρ d (.int .u64 ((n / m : Nat) : Int))) w) : regK P (.cons ⟨d, .bin .quo x y, none⟩ r) K ρ w :=
  st_fix rfl (by
    have e : ∀ m : Int, IntKind.u64.wrap m = m % 18446744073709551616 := fun _ => rfl
    have h1 : (n : Int).tdiv (m : Int) = ((n / m : Nat) : Int) := by rw [Int.tdiv_eq_ediv_of_nonneg (by omega)]; rfl
    have h2 := Nat.div_le_self n m
    have h3 : ∀ q : Nat, q ≤ n → ((q : Nat) : Int) % 18446744073709551616 = ((q : Nat) : Int) := fun q hq => Int.emod_eq_of_lt (by omega) (by omega)
    have h4 : ¬ (m : Int) = 0 := by omega
    simp only [KOp.fix, hx, hy, binVal, isShift, Bool.false_eq_true, if_false, if_true, intBin, h4, h1, e, h3 _ h2]) k
theorem st_remU {x y : Operand} {n m : Nat} (hx : ev ρ x = .int .u64 (n : Nat)) (hy : ev ρ y = .int .u64 (m : Nat)) (h0 : 0 < m) (k : regK P r K (put ρ d (.int .u64 ((n % m : Nat) : Int))) w) : regK P (.cons ⟨d, .bin .rem x y, none⟩ r) K ρ w :=
  st_fix rfl (by
    have h1 : (n : Int).tmod (m : Int) = ((n % m : Nat) : Int) := by rw [Int.tmod_eq_emod_of_nonneg (by omega)]; rfl
    have h4 : ¬ (m : Int) = 0 := by omega
    simp only [KOp.fix, hx, hy, binVal, isShift, Bool.false_eq_true, if_false, if_true, intBin, h4, h1]) k
end
theorem ent_priced16 {x : Ent} (h : EntOk x) : pricedB x.fee x.size = true := by
  unfold pricedB
  rw [h.fee, Bool.true_and, h.size]
  have := (sz_of_check (chk_sm h.check) h.check).sizeM
  exact decide_eq_true (by omega)
def needE (l : List Ent) (t : Tx) : Int := if checkT t ≠ 0 then checkT t else if l.any (hitE t) = false then 0 else if goodB (needL l t) = true then 0 else 3
def needN (l : List Ent) (t : Tx) : Int := if checkT t ≠ 0 then 0 else if l.any (hitE t) = false then 0 else if goodB (needL l t) = true then needL l t else 0
attribute [local irreducible] regK codeK retK KOp.wp K.Spec u32 leS vnS str zero32 sha2 encT idT sizeT checkT grantB idN stepR workL reachE findI dropG addG aboveL belowL idsOf feeD sizeD cntS metL confL evL inS inB needI needL feeOf
theorem div64_spec (lo y : Nat) (hy0 : 0 < y) (hlo : lo < 18446744073709551616) (w : World) : K.Spec Tryz.prog F.math_bits_Div64 [.int .u64 0, .int .u64 (lo : Nat), .int .u64 (y : Nat)] w fun r w' => r = .tuple #[.int .u64 ((lo / y : Nat) : Int), .int .u64 ((lo % y : Nat) : Int)] ∧ Ext w w' := by
  refine s_math_bits_Div64 rfl ?_
  unfold k_math_bits_Div64
  refine oy ?_
  repeat' (first|(refine st_quoU (d := some 30) (n := lo) (m := y) rfl rfl hy0 hlo ?_)|(refine st_remU (d := some 33) (n := lo) (m := y) rfl rfl hy0 ?_)|(refine zL (p := ((y : Nat) : Int) = 0) rfl (fun h => absurd h (by omega)) (fun _ => ?_))|(refine zL (p := ((y : Nat) : Int) ≤ 0) rfl (fun h => absurd h (by omega)) (fun _ => ?_))|(first|refine go1 ?_|refine zg (fun _ _=>?_)|refine zi (fun _ _=>?_))|(refine st_both ?_ ?_))
  all_goals exact x_ret rfl ⟨rfl, by exact fx⟩
theorem above16_spec (S F' I' : Nat) (hS : S ≤ 1000000) (hF : F' ≤ 1000000000000) (hI : 0 < I' ∧ I' ≤ 1000000) (w : World) : K.Spec Tryz.prog F.replace_above [.int .i64 (S : Nat), .int .i64 (F' : Nat), .int .i64 (I' : Nat)] w fun r w' => r = .int .i64 ((F' : Int) * (S : Int) / (I' : Int) + 1) ∧ Ext w w' := by
  have hp : F' * S ≤ 1000000000000 * 1000000 := Nat.mul_le_mul hF hS
  have h1 : F' * S / 18446744073709551616 = 0 := by omega
  have h2 : F' * S % 18446744073709551616 = F' * S := by omega
  have h3 := Nat.div_le_self (F' * S) I'
  have e : (F' : Int) * (S : Int) / (I' : Int) = ((F' * S / I' : Nat) : Int) := by rw [Int.natCast_ediv, Int.natCast_mul]
  rw [e]
  obtain ⟨q, hq⟩ : ∃ q, q = F' * S / I' := ⟨_, rfl⟩
  obtain ⟨p, hpq⟩ : ∃ p, p = F' * S := ⟨_, rfl⟩
  rw [← hq] at h3 ⊢
  rw [← hpq] at h1 h2 h3 hp
  refine s_replace_above rfl ?_
  unfold k_replace_above
  refine oy ?_
  repeat' (first|(refine st_fixV (d := some 13) (.int .u64 (F' : Nat)) rfl (congrArg (fun n => some (Value.int .u64 n)) (u64_w (by omega))) ?_)|(refine st_fixV (d := some 15) (.int .u64 (S : Nat)) rfl (congrArg (fun n => some (Value.int .u64 n)) (u64_w (by omega))) ?_)|(refine st_fixV (d := some 23) (.int .u64 (I' : Nat)) rfl (congrArg (fun n => some (Value.int .u64 n)) (u64_w (by omega))) ?_)|(refine st_fixV (d := some 28) (.int .i64 (q : Nat)) rfl (congrArg (fun n => some (Value.int .i64 n)) (IntWalk.i64_in _ (by omega))) ?_)|(first|refine go1 ?_|refine zg (fun _ _=>?_)|refine zi (fun _ _=>?_))|(refine zC (d := some 16) rfl (mul64_spec F' S (by omega) (by omega) _) ?_; rintro _ w3 ⟨rfl, x3⟩; rw [← hpq, h1, h2])|(refine zC (d := some 24) rfl (div64_spec p I' hI.1 (by omega) _) ?_; rintro _ w4 ⟨rfl, x4⟩; rw [show p / I' = q by rw [hq, hpq]]))
  exact x_ret rfl ⟨rfl, by exact fx⟩
theorem above16_int (S : Nat) (f z : Int) (hS : S ≤ 1000000) (hp : pricedB f z = true) (hf : f ≤ 1000000000000) (w : World) : K.Spec Tryz.prog F.replace_above [.int .i64 (S : Nat), .int .i64 f, .int .i64 z] w fun r w' => r = .int .i64 (f * (S : Nat) / z + 1) ∧ Ext w w' := by
  obtain ⟨F', I', rfl, rfl, b1, b2, b3⟩ := pricedB_nat hp
  exact above16_spec S F' I' hS (by omega) ⟨by omega, b3⟩ w
theorem afee_spec (R' S : Nat) (hR : R' ≤ 100000000) (hS : S ≤ 1000000) (w : World) : K.Spec Tryz.prog F.amount_Fee [.int .i64 (R' : Nat), .int .i64 (S : Nat)] w fun r w' => r = .tuple #[.int .i64 (((R' * S + 999) / 1000 : Nat) : Int), .int .i64 0] ∧ Ext w w' := by
  have hp : R' * S ≤ 100000000 * 1000000 := Nat.mul_le_mul hR hS
  refine s_amount_Fee rfl ?_
  unfold k_amount_Fee
  refine oy ?_
  repeat' (first|(refine zF (d := some 7) (v := .bool true) ((qF _ _ _).trans (by rw [decide_eq_true (by omega)])) ?_)|(refine st_fixV (d := some 16) (.int .i64 ((R' * S : Nat) : Int)) rfl (congrArg (fun n => some (Value.int .i64 n)) (IntWalk.i64_in _ (by omega))) ?_)|(refine st_fixV (d := some 18) (.int .i64 ((R' * S + 999 : Nat) : Int)) rfl (congrArg (fun n => some (Value.int .i64 n)) ((IntWalk.i64_in _ (by omega)).trans (by omega))) ?_)|(refine st_quo (d := some 19) (n := R' * S + 999) (m := 1000) rfl rfl (by omega) (by omega) ?_)|(apply zO; focus((conv=>lhs;whnf)<;>(first|with_reducible exact rfl|(refine congrArg Value.bool ?_;decide))))|(refine zF (d := some 11) (v := .bool true) ((qF _ _ _).trans (by rw [decide_eq_true (by omega)])) ?_)|(first|refine go1 ?_|refine zg (fun _ _=>?_)|refine zi (fun _ _=>?_)))
  exact x_ret rfl ⟨rfl, by exact fx⟩
set_option maxHeartbeats 2000000 in
theorem need_spec {g : Nat} {M N : List Nat} {l : List Ent} {cs : List Value} {t : Tx} (w : World) (hG : GrR w g M l) (hM : ∀ b ∈ M, b < w.heap.size) (ht : txR.rel N w cs t) (hs : t.Sm) (hl : l.length ≤ 1000) (hf : ∀ x ∈ l, x.fee ≤ 1000000000000) :
    K.Spec Tryz.prog F.replace_Need [.pointer (some ⟨g, 0, none⟩), .agg cs.toArray] w fun r w' => r = .tuple #[.int .i64 (needN l t), .int .i64 (needE l t)] ∧ Ext w w' := by
  have hnd := hG.nodup
  have hE := hG.ok
  have ht0 := ht
  obtain ⟨iv, ov, rfl, hi, ho, hv⟩ := ht
  by_cases hc : checkT t = 0
  · have hz := sz_of_check hs hc
    have hz2 := hz.sizeM
    have e0 : sizeV t = .tuple #[.int .i64 (sizeT t : Nat), .int .i64 0] := by rw [sizeV, if_pos hc]
    obtain ⟨ids, hids⟩ : ∃ ids, ids = idsOf l (confL l t) := ⟨_, rfl⟩
    have hil : ids.length ≤ l.length := by rw [hids]; exact idsOf_le1 _ _
    have hel := idsOf_le1 l (evL l t)
    have hfee : feeD l (idsOf l (evL l t)) = goneF l t := by rw [feeD_once hnd]; rfl
    have hgb := gone_bound (t := t) (c := 1000000000000) (fun x hx => ⟨((goodB_iff _).1 (hE x hx).fee).1, hf x hx⟩)
    have hgb2 : ((1000000000000 : Nat) : Int) * l.length ≤ 1000000000000 * 1000 := by omega
    have hone : (1000 * sizeT t + 999) / 1000 = sizeT t := by omega
    have hconf : ids.length = 0 ↔ l.any (hitE t) = false := by rw [hids]; exact conf_len0
    have hnl : needL l t = needI l (sizeT t : Nat) (goneF l t + (sizeT t : Nat)) ids := by rw [hids]; unfold needL; rfl
    have n0 : needI l (sizeT t : Nat) (goneF l t + (sizeT t : Nat)) (ids.take 0) = goneF l t + (sizeT t : Nat) := by rw [List.take_zero]; unfold needI; rfl
    have hin : ∀ s ∈ ids, getE l s ∈ l := fun s hs => by
      rw [hids] at hs
      obtain ⟨x, hx, _, rfl⟩ := mem_conf.1 hs
      rw [(get_mem hnd hx).2]; exact hx
    refine s_replace_Need rfl ?_
    unfold k_replace_Need
    refine oy ?_
    repeat' (first|(first|refine go1 ?_|refine zg (fun _ _=>?_)|refine zi (fun _ _=>?_))|(refine zD (d := some 3) rfl rfl (fun bt wt xt bt' (rt : Row wt ⟨bt, 0, none⟩ (txCs t iv ov)) hbt0=>?_))|(refine zC (d := some 22) rfl (size_spec (M := N) (cs := txCs t iv ov) (t := t) _ (R.ext ht0 (by exact fx)) hs) ?_; rintro _ w3 ⟨rfl, x3⟩; rw [e0])|(refine zC (d := some 30) rfl (conflicts_spec (M := M) (N := N) (l := l) (cs := txCs t iv ov) (t := t) _ (hG.ext (by exact fx)) (fun b hb => Nat.lt_of_lt_of_le (hM b hb) (Ext.size (by exact fx))) (R.ext ht0 (by exact fx)) hs.ins hl) ?_; rw [← hids]; rintro vc w4 ⟨oc, x4⟩; have sc := oc.sl)|(refine st_len (E := strE) (l := ids) rfl (SlE.ext (by exact fx) sc) ?_)|(refine zL rfl (fun h => ?_) (fun h => ?_))|(refine zC (d := some 38) rfl (evicted_spec (M := M) (N := N) (l := l) (cs := txCs t iv ov) (t := t) _ (hG.ext (by exact fx)) (fun b hb => Nat.lt_of_lt_of_le (hM b hb) (Ext.size (by exact fx))) (R.ext ht0 (by exact fx)) hs.ins hl) ?_; rintro vg w5 ⟨og, x5⟩; have sg := og.sl)|(refine zC (d := some 39) rfl (gsum_spec (M := M) (l := l) (ids := idsOf l (evL l t)) _ (hG.ext (by exact fx)) (fun b hb => Nat.lt_of_lt_of_le (hM b hb) (Ext.size (by exact fx))) (SlE.ext (by exact fx) sg) (by omega)) ?_; rintro _ w6 ⟨rfl, x6⟩; rw [hfee])|(refine zC (d := some 44) rfl (afee_spec 1000 (sizeT t) (by decide) hz2.2 _) ?_; rintro _ w7 ⟨rfl, x7⟩; rw [hone])|(refine c_loopV (fun (i : Nat) w' => Ext w7 w' ∧ i ≤ ids.length) (fun i => [(0, .pointer (some ⟨g, 0, none⟩)), (6, .int .i64 (sizeT t : Nat)), (13, .int .i64 (needI l (sizeT t : Nat) (goneF l t + (sizeT t : Nat)) (ids.take i))), (50, vc), (51, .int .i64 (ids.length : Nat)), (52, .int .i64 i)]) (fun i => ids.length - i) 0 ⟨rfl, rfl, by rw [n0]; rfl, rfl, rfl, rfl, trivial⟩ ⟨Ext.refl _, by simp⟩ ?_; rintro i ρ w8 ⟨x8, hi8⟩)|(have hii : i < ids.length := (by omega); refine st_elemE (d := some 54) (E := strE) rfl rfl (n := i) (l := ids) (SlE.ext (by exact fx) sc) rfl hii (fun ad r9 => ?_); have r9 : Row _ ad [Value.string ids[i]] := r9)|(refine zC (d := some 59) rfl (get_spec (M := M) ids[i] _ (hG.ext (by exact fx)) (fun b hb => Nat.lt_of_lt_of_le (hM b hb) (Ext.size (by exact fx)))) ?_; rintro v5 w10 ⟨ds, rfl, e5, x10⟩; have hmem := hin _ (List.getElem_mem hii); have hpr := ent_priced16 (hE _ hmem); have hff := hf _ hmem; generalize hX : getE l ids[i] = X at *; obtain ⟨iv2, ov2, rfl, o1, o2, o3⟩ := e5; have i1 := o1.one; have i2 := o2.one)|(refine zE (d' := 16) (fun _=>rfl) rfl rfl (by simp [entCs, i1, i2]; exact ⟨rfl, rfl, rfl, rfl, rfl⟩) (fun b6 w11 x11 a11 (r11 : Row w11 ⟨b6, 0, none⟩ (entCs X iv2 ov2)) hb6=>?_)))
    · have h0 : l.any (hitE t) = false := hconf.1 (by omega)
      have e1 : needN l t = 0 := by rw [needN, if_neg (by simpa using hc), if_pos h0]
      have e2 : needE l t = 0 := by rw [needE, if_neg (by simpa using hc), if_pos h0]
      rw [e1, e2]
      exact x_ret rfl ⟨rfl, by exact fx⟩
    · repeat' (first|(refine st_max (d := some 69) rfl rfl ?_)|(first|refine go1 ?_|refine zg (fun _ _=>?_)|refine zi (fun _ _=>?_))|(refine zC (d := some 68) rfl (above16_int (sizeT t) X.fee X.size hz2.2 hpr hff _) ?_; rintro _ w12 ⟨rfl, x12⟩))
      refine ⟨i + 1, ⟨rfl, rfl, ?_, rfl, rfl, rfl, trivial⟩, ⟨by exact fx, by omega⟩, by omega⟩
      show _ = Value.int .i64 (needI l (sizeT t : Nat) (goneF l t + (sizeT t : Nat)) (ids.take (i + 1)))
      rw [need_take hii, hX]; rfl
    · have ei : i = ids.length := by omega
      subst ei
      rw [List.take_of_length_le (Nat.le_refl _), ← hnl]
      have h1 : l.any (hitE t) = true := by
        cases h9 : l.any (hitE t) with
        | false => exact absurd (hconf.2 h9) (by omega)
        | true => rfl
      cases hg9 : goodB (needL l t) with
      | false =>
        have e1 : needN l t = 0 := by rw [needN, if_neg (by simpa using hc), if_neg (by rw [h1]; simp), if_neg (by rw [hg9]; simp)]
        have e2 : needE l t = 3 := by rw [needE, if_neg (by simpa using hc), if_neg (by rw [h1]; simp), if_neg (by rw [hg9]; simp)]
        rw [e1, e2]
        repeat' (first|refine go1 ?_|refine zg (fun _ _=>?_)|refine zi (fun _ _=>?_))
        exact x_ret rfl ⟨rfl, by exact fx⟩
      | true =>
        have e1 : needN l t = needL l t := by rw [needN, if_neg (by simpa using hc), if_neg (by rw [h1]; simp), if_pos hg9]
        have e2 : needE l t = 0 := by rw [needE, if_neg (by simpa using hc), if_neg (by rw [h1]; simp), if_pos hg9]
        rw [e1, e2]
        repeat' (first|refine go1 ?_|refine zg (fun _ _=>?_)|refine zi (fun _ _=>?_))
        exact x_ret rfl ⟨rfl, by exact fx⟩
  · have e0 : sizeV t = .tuple #[.int .i64 0, .int .i64 (checkT t)] := by rw [sizeV, if_neg hc]
    have e1 : needN l t = 0 := by rw [needN, if_pos hc]
    have e2 : needE l t = checkT t := by rw [needE, if_pos hc]
    rw [e1, e2]
    refine s_replace_Need rfl ?_
    unfold k_replace_Need
    refine oy ?_
    repeat' (first|(first|refine go1 ?_|refine zg (fun _ _=>?_)|refine zi (fun _ _=>?_))|(refine zD (d := some 3) rfl rfl (fun bt wt xt bt' (rt : Row wt ⟨bt, 0, none⟩ (txCs t iv ov)) hbt0=>?_))|(refine zC (d := some 22) rfl (size_spec (M := N) (cs := txCs t iv ov) (t := t) _ (R.ext ht0 (by exact fx)) hs) ?_; rintro _ w3 ⟨rfl, x3⟩; rw [e0])|(refine zN (p := checkT t = 0) rfl (fun _ => ?_) (fun h => absurd h hc)))
    exact x_ret rfl ⟨rfl, by exact fx⟩
end Go.Proofs.YtilhlcnekkkajaaGreat
end
