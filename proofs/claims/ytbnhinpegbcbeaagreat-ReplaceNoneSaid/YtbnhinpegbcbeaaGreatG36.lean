/- Contracts: rates, and how they are compared, by the program and by the document. Contracts: the score of an entry, the worst one, the total size, by the program. Contracts: trimming a graph, by the program. Plain: transactions in place of others. Contracts: what a transaction conflicts with, and evicts, by the program. Contracts: has a graph just some entries? Plain: a transaction that was made of -/
import Derived.Test.YtbnhinpegbcbeaaGreatG35
set_option linter.unusedVariables false
set_option linter.unusedSimpArgs false
section
namespace Go.Proofs.YtbnhinpegbcbeaaGreat
open Go Go.K
theorem mul64_spec (x y : Nat) (hx : x < 18446744073709551616) (hy : y < 18446744073709551616) (w : World) : K.Spec Tryz.prog F.math_bits_Mul64 [.int .u64 (x : Nat), .int .u64 (y : Nat)] w fun v w' => v = .tuple #[.int .u64 ((x * y / 18446744073709551616 : Nat) : Int), .int .u64 ((x * y % 18446744073709551616 : Nat) : Int)] ∧ Ext w w' :=
  (Tryz.bits_Mul64 x y hx hy w).mono fun e w' ⟨he, hw⟩ => ⟨_, he, rfl, by rw [hw]; exact Ext.refl _⟩
attribute [local irreducible] regK codeK retK KOp.wp K.Spec u32 leS vnS str zero32 sha2

def intE : Enc Int := ⟨fun n => [.int .i64 n], 1, fun _ => rfl, by decide, by intro x v hv; simp at hv; subst hv; rfl⟩
theorem u64_w {n : Nat} (h : n ≤ 2100000000000000) : IntKind.u64.wrap (n : Int) = (n : Nat) := by
  have e : ∀ m : Int, IntKind.u64.wrap m = m % 18446744073709551616 := fun _ => rfl
  rw [e]; omega
/-! The document's. -/
theorem parts_spec (a b : Nat) (ha : a ≤ 2100000000000000) (hb : b ≤ 1000000) (w : World) : K.Spec Tryz.prog F.kedgeref01_parts [.int .i64 (a : Nat), .int .i64 (b : Nat)] w fun r w' => r = .tuple #[.int .i64 ((a * b / 1000000 : Nat) : Int), .int .i64 ((a * b % 1000000 : Nat) : Int)] ∧ Ext w w' := by
  have h1 : a % 1000000 * b ≤ 1000000 * 1000000 := Nat.mul_le_mul (by omega) hb
  have h2 : a / 1000000 * b ≤ 2100000000 * 1000000 := Nat.mul_le_mul (by omega) hb
  obtain ⟨e1, e2⟩ := parts_nat a b
  rw [← e1, ← e2]
  refine s_kedgeref01_parts rfl ?_
  unfold k_kedgeref01_parts
  refine ox ?_
  repeat' (first|(refine st_quo (d := some 10) (n := a) (m := 1000000) rfl rfl (by omega) (by omega) ?_)|(refine st_rem (d := some 12) (n := a) (m := 1000000) rfl rfl (by omega) ?_)|(refine st_fixV (d := some 15) (.int .i64 ((a % 1000000 * b : Nat) : Int)) rfl (congrArg (fun n => some (Value.int .i64 n)) (IntWalk.i64_in _ (by omega))) ?_)|(refine st_fixV (d := some 18) (.int .i64 ((a / 1000000 * b : Nat) : Int)) rfl (congrArg (fun n => some (Value.int .i64 n)) (IntWalk.i64_in _ (by omega))) ?_)|(refine st_quo (d := some 20) (n := a % 1000000 * b) (m := 1000000) rfl rfl (by omega) (by omega) ?_)|(refine st_rem (d := some 23) (n := a % 1000000 * b) (m := 1000000) rfl rfl (by omega) ?_)|(first|refine go1 ?_|refine zg (fun _ _=>?_)|refine zi (fun _ _=>?_)))
  exact x_ret rfl ⟨rfl, by exact fx⟩
theorem rcompare_spec (f s o i : Int) (w : World) : K.Spec Tryz.prog F.kedgeref01_Compare [.int .i64 f, .int .i64 s, .int .i64 o, .int .i64 i] w fun r w' => r = .int .i64 (cmpR f s o i) ∧ Ext w w' := by
  by_cases hp : pricedB f s = true ∧ pricedB o i = true
  · obtain ⟨h1, h2⟩ := hp
    have g1 := h1
    have g2 := h2
    obtain ⟨F', S', rfl, rfl, b1, b2, b3⟩ := pricedB_nat h1
    obtain ⟨O', I', rfl, rfl, c1, c2, c3⟩ := pricedB_nat h2
    rw [cmpR_nat h1 h2, cmpU_parts]
    have q1 : goodB (F' : Nat) = true := (goodB_iff _).2 (by omega)
    have q2 : goodB (O' : Nat) = true := (goodB_iff _).2 (by omega)
    refine s_kedgeref01_Compare rfl ?_
    unfold k_kedgeref01_Compare
    refine ox ?_
    repeat' (first|(refine zF (d := some 16) (v := .bool true) (by show some (Value.bool (goodB (F' : Nat))) = _; rw [q1]) ?_)|(refine zF (d := some 18) (v := .bool true) (by show some (Value.bool (goodB (O' : Nat))) = _; rw [q2]) ?_)|(first|refine go1 ?_|refine zg (fun _ _=>?_)|refine zi (fun _ _=>?_))|(refine zC (d := some 44) rfl (parts_spec F' I' (by omega) (by omega) _) ?_; rintro _ w3 ⟨rfl, x3⟩)|(refine zC (d := some 50) rfl (parts_spec O' S' (by omega) (by omega) _) ?_; rintro _ w4 ⟨rfl, x4⟩)|(refine zJ rfl (fun h => ?_) (fun h => ?_))|(refine zL rfl (fun h => ?_) (fun h => ?_)))
    all_goals first
      | (exfalso; omega)
      | (refine x_ret rfl ⟨congrArg (Value.int .i64) ?_, by exact fx⟩
         split <;> (try split) <;> omega)
  · have e : cmpR f s o i = 0 := cmpR_no (by cases h1 : pricedB f s <;> cases h2 : pricedB o i <;> simp_all)
    rw [e]
    have hp2 : ¬ ((goodB f = true ∧ 1 ≤ s ∧ s ≤ 1000000) ∧ goodB o = true ∧ 1 ≤ i ∧ i ≤ 1000000) := by
      intro h; apply hp; rw [pricedB_iff, pricedB_iff, ← goodB_iff, ← goodB_iff]; exact h
    refine s_kedgeref01_Compare rfl ?_
    unfold k_kedgeref01_Compare
    refine ox ?_
    repeat' (first|(first|refine go1 ?_|refine zg (fun _ _=>?_)|refine zi (fun _ _=>?_))|(refine zJ rfl (fun h => ?_) (fun h => ?_))|(refine zK rfl (fun h => ?_) (fun h => ?_))|(refine zL rfl (fun h => ?_) (fun h => ?_)))
    all_goals first
      | exact x_ret rfl ⟨rfl, by exact fx⟩
      | exact absurd ⟨⟨by simp_all, by omega, by omega⟩, by simp_all, by omega, by omega⟩ hp2
end Go.Proofs.YtbnhinpegbcbeaaGreat
end
section
namespace Go.Proofs.YtbnhinpegbcbeaaGreat
open Go Go.K
attribute [local irreducible] regK codeK retK KOp.wp K.Spec u32 leS vnS str zero32 sha2 encT idT sizeT checkT grantB idN stepR workL reachE findI dropG addG aboveL belowL idsOf feeD sizeD scoreL worstI cmpR rateR sizeL

theorem idsOf_le1 (l : List Ent) (m : List Bool) : (idsOf l m).length ≤ l.length := by
  have := (idsOf_sub l m).length_le
  simpa using this
end Go.Proofs.YtbnhinpegbcbeaaGreat
end
section
namespace Go.Proofs.YtbnhinpegbcbeaaGreat
open Go Go.K
section
variable {P : Program} {d : Option Tmp} {r : KR} {K : Env → World → Prop} {ρ : Env} {w : World}
theorem st_max {x y : Operand} {a b : Int} (hx : ev ρ x = .int .i64 a) (hy : ev ρ y = .int .i64 b) (k : regK P r K (put ρ d (.int .i64 (max a b))) w) : regK P (.cons ⟨d, .minmax true x [y], none⟩ r) K ρ w :=
  st_fix rfl (by
    have e : (if b > a then b else a) = max a b := by split <;> omega
    simp only [KOp.fix, List.foldl_cons, List.foldl_nil, hx, hy, Option.bind_some, minmax2, if_true, e]) k
end
theorem Own.blk_lt {α : Type} {E : Enc α} {t : TypeId} {B : Nat} {w : World} {v : Value} {l : List α} (h : Own E t B w v l) : ∀ b ∈ blkOf v, b < w.heap.size := by
  rcases h with ⟨rfl, rfl⟩ | ⟨b, cap, junk, rfl, hB, hat, hl⟩ <;> simp [blkOf]
  exact hat.lt
attribute [local irreducible] regK codeK retK KOp.wp K.Spec u32 leS vnS str zero32 sha2 encT idT sizeT checkT grantB idN stepR workL reachE findI dropG addG aboveL belowL idsOf feeD sizeD scoreL worstI cmpR rateR sizeL trimL wMask worstE leftL dropAll wS

structure TrimI (w : World) (l : List Ent) (n : Int) (B g : Nat) (M U : List Nat) (L : List Ent) (M1 : List Nat) (v : Value) (G : List ByteArray) (R : Int) (w' : World) : Prop where
  chg : Chg M w w'
  gr : GrU w' B g M1 (blkOf v ++ U) L
  own : Own strE T.string w.heap.size w' v G
  low : ∀ b ∈ M1, b ∈ M ∨ w.heap.size ≤ b
  eq : trimL n l = ((trimL n L).1, G ++ (trimL n L).2.1, max R (trimL n L).2.2)
  rate : 0 ≤ R
  len : G.length + L.length ≤ l.length
theorem TrimI.start {w : World} {l : List Ent} {n : Int} {B g : Nat} {M U : List Nat} (hG : GrU w B g M U l) : TrimI w l n B g M U l M (.slice none 0 0) [] 0 w :=
  ⟨Chg.refl _ _, hG, Own.nil _ _ _, fun _ h => .inl h, by
    have := (trim_rate (m := n) hG.gr.nodup).1
    rw [List.nil_append, Int.max_eq_right this], Int.le_refl _, by simp⟩
theorem TrimI.stop {w w' : World} {l L : List Ent} {n R : Int} {B g : Nat} {M U M1 : List Nat} {v : Value} {G : List ByteArray} (h : TrimI w l n B g M U L M1 v G R w') (hs : L.length = 0 ∨ sizeL L ≤ n) : trimL n l = (L, G, R) := by
  have e := h.eq
  rw [trimL_stop hs, List.append_nil] at e
  rw [e, Int.max_eq_left h.rate]
end Go.Proofs.YtbnhinpegbcbeaaGreat
end
section
namespace Go.K
open Go Go.Proofs.YtbnhinpegbcbeaaGreat
/-- Does an entry spend what a transaction spends? -/
def hitE (t : Tx) (x : Ent) : Bool := x.tx.ins.any fun a => t.ins.any fun b => decide (a.p = b.p)
def confL (l : List Ent) (t : Tx) : List Bool := l.map (hitE t)
def orB (a b : List Bool) : List Bool := List.zipWith (· || ·) a b
def evI (l : List Ent) (t : Tx) : Nat → List Bool
  | 0 => List.replicate l.length false
  | i + 1 => if hitE t (entD l i) = true then orB (evI l t i) (belowL l (entD l i).id) else evI l t i
def evL (l : List Ent) (t : Tx) : List Bool := evI l t l.length
def orTo (a b : List Bool) (k : Nat) : List Bool := (orB a b).take k ++ a.drop k
def sigT (t : Tx) : Bool := t.ins.any fun x => decide (x.q < 4294967294)
def mayE (l : List Ent) (x : Ent) : Bool := sigT x.tx || (idsOf l (aboveL l x.tx)).any fun s => sigT (getE l s).tx
/-- Does it spend what it may not? -/
def freshP (l : List Ent) (t : Tx) : Bool := t.ins.any fun b => outHas l b.p && (inB (idsOf l (evL l t)) b.p.s || !inB (idsOf l (confL l t)) (spId l b.p))
/-- The least fee behind some entries, at a size. -/
def needI (l : List Ent) (S n : Int) (ids : List ByteArray) : Int := ids.foldl (fun a s => max a ((getE l s).fee * S / (getE l s).size + 1)) n
def goneF (l : List Ent) (t : Tx) : Int := feeOf l (evL l t)
def needL (l : List Ent) (t : Tx) : Int := needI l (sizeT t : Nat) (goneF l t + (sizeT t : Nat)) (idsOf l (confL l t))
def enoughL (l : List Ent) (t : Tx) (fee : Int) : Bool := l.all (fun x => !hitE t x || decide (cmpR fee (sizeT t : Nat) x.fee x.size > 0)) && (!l.any (hitE t) || decide (goneF l t + (sizeT t : Nat) ≤ fee))
def rulesL (l : List Ent) (t : Tx) (fee : Int) : Int :=
  if checkT t ≠ 0 then checkT t
  else if goodB fee = false then 3
  else if l.any (fun x => hitE t x && !mayE l x) = true then 15
  else if l.any (hitE t) = false then 0
  else if (idsOf l (evL l t)).length > 100 then 15
  else if freshP l t = true then 15
  else if enoughL l t fee = true then 0 else 11
theorem confL_len {l : List Ent} {t : Tx} : l.length = (confL l t).length := by simp [confL]
theorem orB_len {a b : List Bool} (h : a.length = b.length) : (orB a b).length = a.length := by simp [orB, h]
theorem evI_len {l : List Ent} {t : Tx} : ∀ i, (evI l t i).length = l.length
  | 0 => by simp [evI]
  | i + 1 => by
    rw [evI]
    split
    · rw [orB_len (by rw [evI_len i]; exact belowL_len _ _), evI_len i]
    · exact evI_len i
theorem evL_len {l : List Ent} {t : Tx} : l.length = (evL l t).length := (evI_len _).symm
theorem orTo_zero {a b : List Bool} : orTo a b 0 = a := by simp [orTo]
theorem orTo_all {a b : List Bool} {k : Nat} (h : a.length = b.length) (hk : a.length ≤ k) : orTo a b k = orB a b := by
  unfold orTo
  rw [List.take_of_length_le (by rw [orB_len h]; exact hk), List.drop_of_length_le hk, List.append_nil]
theorem orTo_len {a b : List Bool} {k : Nat} (h : a.length = b.length) : (orTo a b k).length = a.length := by
  unfold orTo
  rw [List.length_append, List.length_take, List.length_drop, orB_len h]; omega
theorem orTo_at {a b : List Bool} {k : Nat} (h : a.length = b.length) (hk : k < a.length) : (orTo a b k)[k]? = a[k]? := by
  unfold orTo
  rw [List.getElem?_append_right (by rw [List.length_take]; omega), List.length_take, orB_len h, Nat.min_eq_left (by omega), List.getElem?_drop]; simp
theorem orTo_set {a b : List Bool} {k : Nat} (h : a.length = b.length) (hk : k < a.length) : (orTo a b k).set k (a[k] || b[k]) = orTo a b (k + 1) := by
  have hb := orB_len h
  apply List.ext_getElem?
  intro i
  have e1 : (orB a b)[k]? = some (a[k] || b[k]) := by
    unfold orB
    rw [List.getElem?_zipWith, List.getElem?_eq_getElem hk, List.getElem?_eq_getElem (by omega : k < b.length)]
  rw [List.getElem?_set, orTo_len h, if_pos (show k < a.length from hk)]
  unfold orTo
  by_cases e : k = i
  · subst e
    rw [if_pos rfl, List.getElem?_append_left (by rw [List.length_take]; omega), List.getElem?_take, if_pos (by omega), e1]
  · rw [if_neg e]
    by_cases h3 : i < k
    · rw [List.getElem?_append_left (by rw [List.length_take]; omega), List.getElem?_append_left (by rw [List.length_take]; omega), List.getElem?_take, List.getElem?_take, if_pos h3, if_pos (by omega)]
    · rw [List.getElem?_append_right (by rw [List.length_take]; omega), List.getElem?_append_right (by rw [List.length_take]; omega), List.getElem?_drop, List.getElem?_drop, List.length_take, List.length_take, hb]
      congr 1; omega
theorem orB_iff {a b : List Bool} {k : Nat} (h : a.length = b.length) : (orB a b)[k]? = some true ↔ a[k]? = some true ∨ b[k]? = some true := by
  unfold orB
  rw [List.getElem?_zipWith]
  by_cases hk : k < a.length
  · rw [List.getElem?_eq_getElem hk, List.getElem?_eq_getElem (by omega : k < b.length)]
    simp
  · rw [List.getElem?_eq_none (by omega), List.getElem?_eq_none (by omega)]; simp
theorem belowL_at {l : List Ent} {s : ByteArray} {k : Nat} (hk : k < l.length) : (belowL l s)[k]? = some true ↔ belowS l s k = true := by
  have e : (belowL l s)[k]? = some (belowS l s k) := by
    unfold belowL reachL
    rw [List.getElem?_map, List.getElem?_range hk]; rfl
  rw [e]; simp
theorem evI_iff {l : List Ent} {t : Tx} {k : Nat} (hk : k < l.length) : ∀ {i : Nat}, i ≤ l.length → ((evI l t i)[k]? = some true ↔ ∃ j, ∃ h : j < l.length, j < i ∧ hitE t l[j] = true ∧ belowS l l[j].id k = true)
  | 0, _ => by
    rw [evI, List.getElem?_replicate]
    simp
  | i + 1, hi => by
    have ih := evI_iff (t := t) hk (show i ≤ l.length by omega)
    have hil : i < l.length := by omega
    rw [evI, entD_get hil]
    by_cases h : hitE t l[i] = true
    · rw [if_pos h, orB_iff (by rw [evI_len]; exact belowL_len _ _), ih, belowL_at hk]
      constructor
      · rintro (⟨j, h1, h2, h3, h4⟩ | h2)
        · exact ⟨j, h1, by omega, h3, h4⟩
        · exact ⟨i, hil, by omega, h, h2⟩
      · rintro ⟨j, h1, h2, h3, h4⟩
        by_cases e : j = i
        · subst e; exact .inr h4
        · exact .inl ⟨j, h1, by omega, h3, h4⟩
    · rw [if_neg h, ih]
      constructor
      · rintro ⟨j, h1, h2, h3, h4⟩
        exact ⟨j, h1, by omega, h3, h4⟩
      · rintro ⟨j, h1, h2, h3, h4⟩
        by_cases e : j = i
        · subst e; exact absurd h3 h
        · exact ⟨j, h1, by omega, h3, h4⟩
section
variable {l : List Ent} {t : Tx}
theorem mem_conf {s : ByteArray} : s ∈ idsOf l (confL l t) ↔ ∃ x ∈ l, hitE t x = true ∧ x.id = s := by
  rw [mem_mask]
  constructor
  · rintro ⟨i, hi, h1, h2⟩
    refine ⟨l[i], List.getElem_mem hi, ?_, h2⟩
    unfold confL at h1
    rw [List.getElem?_map, List.getElem?_eq_getElem hi] at h1
    simpa using h1
  · rintro ⟨x, hx, h1, h2⟩
    obtain ⟨i, hi, rfl⟩ := List.getElem_of_mem hx
    refine ⟨i, hi, ?_, h2⟩
    unfold confL
    rw [List.getElem?_map, List.getElem?_eq_getElem hi]
    simpa using h1
theorem mem_below (hn : (l.map (·.id)).Nodup) {s : ByteArray} {k : Nat} (hk : k < l.length) : l[k].id ∈ idsOf l (belowL l s) ↔ belowS l s k = true := mem_reach hn hk
theorem mem_ev (hn : (l.map (·.id)).Nodup) {s : ByteArray} : s ∈ idsOf l (evL l t) ↔ ∃ x ∈ l, hitE t x = true ∧ s ∈ idsOf l (belowL l x.id) := by
  rw [mem_mask]
  constructor
  · rintro ⟨k, hk, h1, rfl⟩
    obtain ⟨j, h2, _, h3, h4⟩ := (evI_iff hk (Nat.le_refl _)).1 h1
    exact ⟨l[j], List.getElem_mem h2, h3, (mem_below hn hk).2 h4⟩
  · rintro ⟨x, hx, h1, h2⟩
    obtain ⟨j, hj, rfl⟩ := List.getElem_of_mem hx
    obtain ⟨k, hk, _, rfl⟩ := mem_mask.1 h2
    exact ⟨k, hk, (evI_iff hk (Nat.le_refl _)).2 ⟨j, hj, hj, h1, (mem_below hn hk).1 h2⟩, rfl⟩
theorem conf_none (h : l.any (hitE t) = false) : idsOf l (confL l t) = [] := by
  rw [List.any_eq_false] at h
  refine ids_no fun b hb => ?_
  unfold confL at hb
  obtain ⟨x, hx, rfl⟩ := List.mem_map.1 hb
  simpa using h x hx
theorem conf_len0 : (idsOf l (confL l t)).length = 0 ↔ l.any (hitE t) = false := by
  constructor
  · intro h
    rw [List.any_eq_false]
    intro x hx hh
    have := mem_conf.2 ⟨x, hx, hh, rfl⟩
    have := List.length_pos_of_mem this
    omega
  · intro h; rw [conf_none h]; rfl
theorem ev_none (hn : (l.map (·.id)).Nodup) (h : l.any (hitE t) = false) : idsOf l (evL l t) = [] := by
  rw [List.eq_nil_iff_forall_not_mem]
  intro s hs
  obtain ⟨x, hx, h1, _⟩ := (mem_ev hn).1 hs
  rw [List.any_eq_false] at h
  exact h x hx h1
end
/-! The least fee. -/
theorem need_le {l : List Ent} {S : Int} : ∀ {ids : List ByteArray} {n m : Int}, needI l S n ids ≤ m ↔ n ≤ m ∧ ∀ s ∈ ids, (getE l s).fee * S / (getE l s).size + 1 ≤ m
  | [], n, m => by simp [needI]
  | s :: ids, n, m => by
    have ih := need_le (l := l) (S := S) (ids := ids) (n := max n ((getE l s).fee * S / (getE l s).size + 1)) (m := m)
    unfold needI at ih ⊢
    rw [List.foldl_cons, ih]
    simp only [List.mem_cons, forall_eq_or_imp]
    constructor
    · rintro ⟨h1, h2⟩; exact ⟨by omega, by omega, h2⟩
    · rintro ⟨h1, h2, h3⟩; exact ⟨by omega, h3⟩
theorem need_take {l : List Ent} {S n : Int} {ids : List ByteArray} {i : Nat} (h : i < ids.length) : needI l S n (ids.take (i + 1)) = max (needI l S n (ids.take i)) ((getE l ids[i]).fee * S / (getE l ids[i]).size + 1) := by
  unfold needI
  rw [List.take_succ_eq_append_getElem h, List.foldl_append]; rfl
theorem need_base {l : List Ent} {S n : Int} {ids : List ByteArray} : n ≤ needI l S n ids := (need_le.1 (Int.le_refl _)).1
/-- One pays more for its size. -/
theorem more_iff {f s o i : Int} (h1 : pricedB f s = true) (h2 : pricedB o i = true) : cmpR f s o i > 0 ↔ o * s / i + 1 ≤ f := by
  have h2' := h2
  unfold pricedB at h2'
  rw [Bool.and_eq_true, goodB_iff, decide_eq_true_eq] at h2'
  unfold cmpR
  rw [h1, h2, Bool.and_self, if_pos rfl]
  have e : o * s / i + 1 ≤ f ↔ o * s < f * i := by
    rw [← Int.ediv_lt_iff_lt_mul (by omega)]; omega
  rw [e]
  split
  · omega
  · split <;> omega
end Go.K
end
section
namespace Go.Proofs.YtbnhinpegbcbeaaGreat
open Go Go.K
attribute [local irreducible] regK codeK retK KOp.wp K.Spec u32 leS vnS str zero32 sha2 encT idT sizeT checkT grantB idN stepR workL reachE findI dropG addG aboveL belowL idsOf feeD sizeD
theorem pt_dec (p q : Pt) : (decide (p.s = q.s) && (decide (p.i = q.i) && true)) = decide (p = q) := by
  cases p; cases q
  simp only [Bool.and_true, Pt.mk.injEq]
  exact Bool.decide_and _ _ |>.symm
theorem conf2_hb : hasBody Tryz.prog F.replace_Conflicts_1_1 = true := by kernel_rfl
theorem conf1_hb : hasBody Tryz.prog F.replace_Conflicts_1 = true := by kernel_rfl
theorem conf2_spec (a b : TIn) (av bv : Value) {ba : Nat} (w : World) (hbv : bv.oneCell' = true) (ha : Row w ⟨ba, 0, none⟩ (inCs a av)) : K.Spec Tryz.prog F.replace_Conflicts_1_1 [.agg (inCs b bv).toArray, .pointer (some ⟨ba, 0, none⟩)] w fun r w' => r = .bool (decide (a.p = b.p)) ∧ Ext w w' := by
  rw [← pt_dec]
  refine s_replace_Conflicts_1_1 rfl ?_
  unfold k_replace_Conflicts_1_1
  refine ox ?_
  repeat' (first|(first|refine go1 ?_|refine zg (fun _ _=>?_)|refine zi (fun _ _=>?_))|(refine zD rfl rfl (fun bp wp xp ap (rp : Row wp ⟨bp, 0, none⟩ (inCs b bv)) hp0=>?_)))
  exact x_ret rfl ⟨rfl, by exact fx⟩
theorem conf1_spec {M : List Nat} (a : TIn) (av iv ov : Value) {bt : Nat} {t : Tx} (w : World) (hav : av.oneCell' = true) (ht : Row w ⟨bt, 0, none⟩ (txCs t iv ov)) (hi : SlR inR M w iv t.ins) (hn : t.ins.length ≤ 1000) : K.Spec Tryz.prog F.replace_Conflicts_1 [.agg (inCs a av).toArray, .pointer (some ⟨bt, 0, none⟩)] w fun r w' => r = .bool (t.ins.any fun b => decide (a.p = b.p)) ∧ Ext w w' := by
  refine s_replace_Conflicts_1 rfl ?_
  unfold k_replace_Conflicts_1
  refine ox ?_
  repeat' (first|(first|refine go1 ?_|refine zg (fun _ _=>?_)|refine zi (fun _ _=>?_))|(refine zD rfl rfl (fun bp wp xp ap (rp : Row wp ⟨bp, 0, none⟩ (inCs a av)) hp0=>?_))|(refine zC rfl (idxIn_any (l := t.ins) (M := M) (g := F.replace_Conflicts_1_1) (capl := [_]) (p := fun b => decide (a.p = b.p)) _ conf2_hb (SlR.ext hi (by exact fx)) (by omega) ?_) ?_; rotate_left; rintro _ w2 ⟨rfl, x2⟩))
  · exact x_ret rfl ⟨rfl, by exact fx⟩
  · intro x _ w' cs x2 hc
    obtain ⟨bv, rfl, hw, _⟩ := hc
    exact conf2_spec a x av bv w' hw.one (rp.ext x2)
theorem confL_take {l : List Ent} {t : Tx} {i : Nat} (h : i < l.length) : idsOf (l.take (i + 1)) ((confL l t).take (i + 1)) = idsOf (l.take i) ((confL l t).take i) ++ if hitE t l[i] = true then [l[i].id] else [] := by
  have e : (confL l t)[i]'(by rw [← confL_len]; exact h) = hitE t l[i] := by simp [confL]
  rw [idsOf_take confL_len h, e]
set_option maxHeartbeats 2000000 in
theorem conflicts_spec {g : Nat} {M N : List Nat} {l : List Ent} {cs : List Value} {t : Tx} (w : World) (hG : GrR w g M l) (hM : ∀ b ∈ M, b < w.heap.size) (ht : txR.rel N w cs t) (hs : t.ins.length ≤ 1000) (hl : l.length ≤ 1000) :
    K.Spec Tryz.prog F.replace_Conflicts [.pointer (some ⟨g, 0, none⟩), .agg cs.toArray] w fun r w' => Own strE T.string w.heap.size w' r (idsOf l (confL l t)) ∧ Ext w w' := by
  have hsm : ∀ x ∈ l, x.tx.Sm := fun x hx => chk_sm (hG.ok x hx).check
  have id0 : idsOf (l.take 0) ((confL l t).take 0) = [] := by rw [List.take_zero, List.take_zero]; unfold idsOf; rfl
  obtain ⟨iv, ov, rfl, hi, ho, hv⟩ := ht
  refine s_replace_Conflicts rfl ?_
  unfold k_replace_Conflicts
  refine ox ?_
  repeat' (first|(first|refine go1 ?_|refine zg (fun _ _=>?_)|refine zi (fun _ _=>?_))|(refine zD (d := some 3) rfl rfl (fun bt wt xt bt' (rt : Row wt ⟨bt, 0, none⟩ (txCs t iv ov)) ht0=>?_))|(refine zC (d := some 9) rfl (all_spec (M := M) (l := l) _ (hG.ext (by exact fx)) (fun b hb => Nat.lt_of_lt_of_le (hM b hb) (Ext.size (by exact fx))) (by omega)) ?_; rintro va w2 ⟨oa, x2⟩; have sa : SlR entR [] w2 va l := (oa.sub (M' := []) (by simp)).sl (by simp); have x02 : Unit → Ext w w2 := (fun _ => by exact fx); have s02 := (x02 ()).size; have i2 := hi.ext (x02 ()); have r2 := rt.ext x2)|(refine zG (d := some 10) (E := entR) (M := []) (l := l) rfl (SlR.ext sa (by exact fx)) ?_)|(refine zL rfl (fun h => ?_) (fun h => ?_))|(refine c_loopV (fun (p : Nat × Value) w' => Ext w2 w' ∧ p.1 ≤ l.length ∧ Own strE T.string w2.heap.size w' p.2 (idsOf (l.take p.1) ((confL l t).take p.1))) (fun p => [(3, .pointer (some ⟨bt, 0, none⟩)), (5, p.2), (9, va), (10, .int .i64 (l.length : Nat)), (11, .int .i64 p.1)]) (fun p => l.length - p.1) (0, .slice none 0 0) ⟨rfl, rfl, rfl, rfl, rfl, trivial⟩ ⟨Ext.refl _, by simp, by rw [id0]; exact Own.nil _ _ _⟩ ?_; rintro ⟨i, v5⟩ ρ w3 ⟨x3, hi3, o3⟩; simp only at hi3 o3; dsimp only))
  · have hil : i < l.length := by omega
    have hxs := (hsm _ (List.getElem_mem hil)).ins
    have s3 := x3.size
    refine st_elemR (d := some 13) (E := entR) (M := []) rfl rfl (n := i) (l := l) (SlR.ext sa (by exact fx)) rfl hil (fun ad cs r4 he => ?_)
    obtain ⟨iv2, ov2, rfl, q1, q2, q3⟩ := he
    have i1 := q1.one
    have j2 := q2.one
    have r3 := r2.ext x3
    have i3 := i2.ext x3
    have hle := idsOf_length (l.take i) ((confL l t).take i)
    have htl : (l.take i).length = i := by rw [List.length_take]; omega
    have x23 : Unit → Ext w2 w3 := fun _ => x3
    clear x3
    have tl : ∀ w1, Ext w3 w1 → Tells F.replace_Conflicts_1 [.pointer (some ⟨bt, 0, none⟩)] inR (fun cs => .agg cs.toArray) [] w1 l[i].tx.ins (fun a => t.ins.any fun b => decide (a.p = b.p)) := fun w1 x1 x _ w' cs x2 hc => by
      obtain ⟨bv, rfl, hw, _⟩ := hc
      exact conf1_spec (M := N) x bv iv ov w' hw.one (r3.ext (x1.trans x2)) (i3.ext (x1.trans x2)) hs
    repeat' (first|(first|refine go1 ?_|refine zg (fun _ _=>?_)|refine zi (fun _ _=>?_))|(refine zE (d' := 7) (fun _=>rfl) rfl rfl (by simp [entCs, i1, j2]; exact ⟨rfl, rfl, rfl, rfl, rfl⟩) (fun b6 w6 x6 a6 (r6 : Row w6 ⟨b6, 0, none⟩ (entCs l[i] iv2 ov2)) hb6=>?_))|(refine zC (d := some 19) rfl (idxIn_any (l := l[i].tx.ins) (M := []) (g := F.replace_Conflicts_1) (capl := [_]) (p := fun a => t.ins.any fun b => decide (a.p = b.p)) _ conf1_hb (SlR.ext q1 (by exact fx)) (by omega) (tl _ (by exact fx))) ?_; rintro _ w7 ⟨rfl, x7⟩)|(refine zM rfl (fun h => ?_) (fun h => ?_))|(refine zI (d := some 23) (cs := [.string l[i].id]) rfl (fun b9 w9 x9 a9 hb9 => ?_)))
    · have x39 : Ext w3 w9 := by exact fx
      have s39 := x39.size
      refine st_appendX (d := some 24) (E := strE) (v := v5) (l2 := [l[i].id]) rfl (o3.ext x39) (by omega) rfl rfl (sl_new a9 rfl) rfl rfl (by simp only [List.length_cons, List.length_nil]; omega) (fun v10 w10 o10 _ c10 hb10 => ?_)
      have hh : hitE t l[i] = true := h
      repeat' (first|refine go1 ?_|refine zg (fun _ _=>?_)|refine zi (fun _ _=>?_))
      exact ⟨(i + 1, v10), ⟨rfl, rfl, rfl, rfl, rfl, trivial⟩, ⟨(((x23 ()).trans x39).chg c10).mono (fun b hb => .inr (o3.base b hb)), by simp only; omega, by simp only; rw [confL_take hil, if_pos hh]; exact o10⟩, by simp only; omega⟩
    · have hh : ¬ hitE t l[i] = true := by
        have h2 : hitE t l[i] = false := h
        rw [h2]; simp
      exact ⟨(i + 1, v5), ⟨rfl, rfl, rfl, rfl, rfl, trivial⟩, ⟨Ext.trans (x23 ()) (by exact fx), by simp only; omega, by simp only; rw [confL_take hil, if_neg hh, List.append_nil]; exact o3.ext (by exact fx)⟩, by simp only; omega⟩
  · rw [List.take_of_length_le (by omega), List.take_of_length_le (by rw [← confL_len]; omega)] at o3
    exact x_ret rfl ⟨o3.lower s02, Ext.trans (x02 ()) (by exact fx)⟩
end Go.Proofs.YtbnhinpegbcbeaaGreat
end
section
namespace Go.Proofs.YtbnhinpegbcbeaaGreat
open Go Go.K
attribute [local irreducible] regK codeK retK KOp.wp K.Spec u32 leS vnS str zero32 sha2 encT idT sizeT checkT grantB idN stepR workL reachE findI

end Go.Proofs.YtbnhinpegbcbeaaGreat
end
section
namespace Go.K
open Go
theorem made_one {z : Small} {t : Tx} (h : Made z t) (h1 : z.frm.length = 1) (h2 : z.outs = 0) (h3 : z.long = 0) : checkT t = 0 ∧ grantB t = false ∧ t.outs.length = 1 := by
  have hi : t.ins.length = 1 := by rw [h.ins, h1]; rfl
  have ho : t.outs.length = 1 := by rw [h.outs, h2, h3]; rfl
  obtain ⟨x, hx⟩ : ∃ x, t.ins = [x] := List.length_eq_one_iff.1 hi
  obtain ⟨y, hy⟩ : ∃ y, t.outs = [y] := List.length_eq_one_iff.1 ho
  have hx1 := h.each x (by rw [hx]; simp)
  have hy1 := h.eacho y (by rw [hy]; simp)
  have hb : isBase x.p = false := by
    unfold isBase
    have : ¬ x.p.i = baseP.i := by have := hx1.hi; have := hx1.lo; show ¬ x.p.i = 4294967295; omega
    rw [decide_eq_false this, Bool.and_false]
  have hg : goodB y.v = true := by rw [goodB_iff]; have := hy1.lo; have := hy1.hi; omega
  refine ⟨?_, ?_, ho⟩
  · have c1 : countsB t = true := by
      unfold countsB
      rw [hx, hy]
      simp [hx1.wit]
    have c2 : longB t = false := by
      unfold longB
      rw [hx, hy]
      have e1 : longOut y = false := by unfold longOut; exact decide_eq_false (by have := hy1.s; omega)
      have e2 : longIn x = false := by unfold longIn; rw [hx1.wit]; rfl
      simp [e1, e2]
    have c3 : formedT t = true := by
      unfold formedT
      rw [hx]
      have e : badIn t x = false := by
        unfold badIn
        rw [hb, hx1.id]; simp
      simp [e]
    have c4 : twiceB t = false := by
      unfold twiceB points
      rw [hx]; simp [dupB]
    have c5 : sumE (values t) = 0 := by
      unfold sumE values
      rw [hy]
      simp [sumOk, hg]
    unfold checkT
    rw [c1, c2, c3, c4, c5]; rfl
  · unfold grantB
    rw [hx]
    simp [hb]
theorem addG_new {t : Tx} {fee : Int} (h1 : checkT t = 0) (h2 : grantB t = false) (h3 : goodB fee = true) : addG [] t fee = ([⟨t, idT t, fee, (sizeT t : Nat)⟩], 0) := by
  unfold addG
  rw [if_neg (by simpa using h1), if_neg (by rw [h2]; decide), if_neg (by rw [h3]; decide)]
  simp
end Go.K
end
section
namespace Go.Proofs.YtbnhinpegbcbeaaGreat
open Go Go.K
attribute [local irreducible] regK codeK retK KOp.wp K.Spec u32 leS vnS str zero32 sha2 encT idT sizeT checkT grantB idN stepR workL reachE findI

abbrev spT (id : ByteArray) : Tx := ⟨0, [⟨⟨id, 0⟩, 0, []⟩], [], 0⟩
theorem equal_true {v u : Value} {l m : List ByteArray} (w : World) (hl : SlE strE w v l) (hm : SlE strE w u m) (he : l = m) (hn : l.length ≤ 100000000) : K.Spec Tryz.prog F.slices_Equal_L_string_string [v, u] w fun r w' => r = .bool true ∧ Ext w w' :=
  spec_mono (equal_spec w hl hm hn) fun r w' ⟨h1, h2⟩ => ⟨by rw [h1, decide_eq_true he], h2⟩
abbrev zW : Small := ⟨[200], 0, 0, 0, 0, 0⟩
end Go.Proofs.YtbnhinpegbcbeaaGreat
end
section
namespace Go.Proofs.YtbnhinpegbcbeaaGreat
open Go Go.K
attribute [local irreducible] regK codeK retK KOp.wp K.Spec u32 leS vnS str zero32 sha2 encT idT sizeT checkT grantB idN stepR workL reachE findI dropG addG spendI spends

end Go.Proofs.YtbnhinpegbcbeaaGreat
end
section
namespace Go.K
open Go Go.Proofs.YtbnhinpegbcbeaaGreat
section
variable {l : List Ent} {t : Tx}
/-- All entries have a price. -/
abbrev Priced (l : List Ent) : Prop := ∀ x ∈ l, pricedB x.fee x.size = true
theorem enough_iff (hn : (l.map (·.id)).Nodup) (hp : Priced l) (hh : l.any (hitE t) = true) {f : Int} (hf : pricedB f (sizeT t : Nat) = true) : enoughL l t f = true ↔ needL l t ≤ f := by
  unfold enoughL needL
  rw [need_le, hh, Bool.and_eq_true, List.all_eq_true]
  simp only [Bool.not_true, Bool.false_or, decide_eq_true_eq, Bool.or_eq_true, Bool.not_eq_true']
  constructor
  · rintro ⟨h1, h2⟩
    refine ⟨h2, fun s hs => ?_⟩
    obtain ⟨x, hx, h3, rfl⟩ := mem_conf.1 hs
    rw [(get_mem hn hx).2]
    rcases h1 x hx with h | h
    · rw [h3] at h; cases h
    · exact (more_iff hf (hp x hx)).1 h
  · rintro ⟨h1, h2⟩
    refine ⟨fun x hx => ?_, h1⟩
    by_cases h3 : hitE t x = true
    · have := h2 x.id (mem_conf.2 ⟨x, hx, h3, rfl⟩)
      rw [(get_mem hn hx).2] at this
      exact .inr ((more_iff hf (hp x hx)).2 this)
    · exact .inl (by simpa using h3)
theorem feeOf_le {c : Nat} {l : List Ent} (hl : ∀ x ∈ l, 0 ≤ x.fee ∧ x.fee ≤ c) (m : List Bool) : 0 ≤ feeOf l m ∧ feeOf l m ≤ c * l.length := by
  induction l generalizing m with
  | nil => simp [feeOf]
  | cons x l ih => cases m with
    | nil => simp only [feeOf]; exact ⟨Int.le_refl _, Int.mul_nonneg (by omega) (by omega)⟩
    | cons b m =>
      have h1 := ih (fun y hy => hl y (List.mem_cons_of_mem _ hy)) m
      have h2 := hl x (by simp)
      simp only [feeOf, List.length_cons, Int.natCast_add, Int.mul_add]
      split <;> omega
theorem gone_bound {c : Nat} (hf : ∀ x ∈ l, 0 ≤ x.fee ∧ x.fee ≤ c) : 0 ≤ goneF l t ∧ goneF l t ≤ c * l.length := feeOf_le hf _
theorem needL_pos (hg : 0 ≤ goneF l t) (hs : 1 ≤ sizeT t) : 1 ≤ needL l t := by
  have h := need_base (l := l) (S := (sizeT t : Nat)) (n := goneF l t + (sizeT t : Nat)) (ids := idsOf l (confL l t))
  unfold needL
  omega
/-- What the program's rules say, is what the rules say. -/
theorem rules_need (hn : (l.map (·.id)).Nodup) (hp : Priced l) (hh : l.any (hitE t) = true) {f need : Int} (hf : pricedB f (sizeT t : Nat) = true) (hneed : need = if goodB (needL l t) = true then needL l t else 2100000000000001) (h0 : 0 ≤ needL l t) :
    (if f < need then (11 : Int) else 0) = if enoughL l t f = true then 0 else 11 := by
  have h1 := enough_iff hn hp hh hf
  have h2 := (pricedB_iff.1 hf).1
  by_cases h3 : needL l t ≤ f
  · rw [if_pos (h1.2 h3), if_neg]
    rw [hneed, if_pos ((goodB_iff _).2 (by omega))]; omega
  · rw [if_neg (fun h => h3 (h1.1 h)), if_pos]
    rw [hneed]
    split <;> omega
theorem may_ids : (idsOf l (confL l t)).any (fun s => !mayE l (getE l s)) = l.any fun x => hitE t x && !mayE l (getE l x.id) := by
  rw [Bool.eq_iff_iff, List.any_eq_true, List.any_eq_true]
  constructor
  · rintro ⟨s, hs, h⟩
    obtain ⟨x, hx, h3, rfl⟩ := mem_conf.1 hs
    exact ⟨x, hx, by rw [h3, h]; rfl⟩
  · rintro ⟨x, hx, h⟩
    rw [Bool.and_eq_true] at h
    exact ⟨x.id, mem_conf.2 ⟨x, hx, h.1, rfl⟩, h.2⟩
theorem may_conf (hn : (l.map (·.id)).Nodup) : (idsOf l (confL l t)).any (fun s => !mayE l (getE l s)) = l.any fun x => hitE t x && !mayE l x := by
  rw [may_ids, Bool.eq_iff_iff, List.any_eq_true, List.any_eq_true]
  constructor <;> rintro ⟨x, hx, h⟩ <;> exact ⟨x, hx, by rw [(get_mem hn hx).2] at *; exact h⟩
/-! What is allowed. -/
/-! What may come hangs on nothing that goes. -/
end
end Go.K
end
section
namespace Go.K
open Go
variable {l : List Ent}
end Go.K
end
section
namespace Go.Proofs.YtbnhinpegbcbeaaGreat
open Go Go.K
attribute [local irreducible] regK codeK retK KOp.wp K.Spec u32 leS vnS str zero32 sha2 encT idT sizeT checkT grantB idN stepR workL reachE findI dropG addG aboveL belowL inS idsOf feeD sizeD

theorem GrR.apart {w : World} {g : Nat} {M : List Nat} {l : List Ent} (h : GrR w g M l) : l.Pairwise fun x y => ∀ p, spends x p = true → spends y p = false := by
  obtain ⟨b1, vo, b2, m, sp, hP⟩ := h; exact hP.inv.apart
end Go.Proofs.YtbnhinpegbcbeaaGreat
end
