/- The walk of GraphBoth. Contracts: scores, the worst entry, and trimming, by the document. Plain: marks on the way of the document's conflicts. Contracts: the document's conflicts, and what goes. Contracts: the document's answer of what goes, what may be replaced, and what is enough. Contracts: the document's answer of what is enough. Plain: what the document looks at, by places. -/
import Derived.Test.YtbnhinpegbcbeaaGreatG38
set_option linter.unusedVariables false
set_option linter.unusedSimpArgs false
section
namespace Go.Proofs.YtbnhinpegbcbeaaGreat
open Go Go.K
attribute [local irreducible] regK codeK retK KOp.wp K.Spec u32 leS vnS str zero32 sha2 encT idT sizeT checkT grantB idN stepR workL reachE findI dropG addG aboveL belowL inS idsOf

/-- A cell that holds a slice of texts. -/
def slsR : R (List ByteArray) where
  k := 1
  pos := by decide
  ag := false
  rel := fun M w cs x => ∃ v, cs = [v] ∧ SlR strR M w v x
  len := fun ⟨_, h, _⟩ => by rw [h]; rfl
  one := fun ⟨v, h, hs⟩ u hu => by subst h; simp at hu; subst hu; exact hs.one
  step := fun ⟨v, h, hs⟩ c hL hM => ⟨v, h, hs.step c hL hM⟩
end Go.Proofs.YtbnhinpegbcbeaaGreat
end
section
namespace Go.Proofs.YtbnhinpegbcbeaaGreat
open Go Go.K
attribute [local irreducible] regK codeK retK KOp.wp K.Spec u32 leS vnS str zero32 sha2 encT idT sizeT checkT grantB idN stepR workL reachE findI dropG addG aboveL belowL idsOf feeD sizeD feeOf szOf scoreL cmpR rateR sizeL trimL wMask leftL dropAll
attribute [local irreducible] worstI worstE
/-- A step of the loop of the document's trimming. -/
structure RTrimI (w : World) (l : List Ent) (n : Int) (M : List Nat) (L : List Ent) (vL : Value) (G : List ByteArray) (vG : Value) (R : Int) (w' : World) : Prop where
  ext : Ext w w'
  sl : SlR entR (blkOf vG ++ M) w' vL L
  own : Own strE T.string w.heap.size w' vG G
  sub : L.Sublist l
  eq : trimL n l = ((trimL n L).1, G ++ (trimL n L).2.1, max R (trimL n L).2.2)
  rate : 0 ≤ R
  len : G.length + L.length ≤ l.length
theorem RTrimI.stop {w w' : World} {l L : List Ent} {n R : Int} {M : List Nat} {vL vG : Value} {G : List ByteArray} (h : RTrimI w l n M L vL G vG R w') (hs : L.length = 0 ∨ sizeL L ≤ n) : trimL n l = (L, G, R) := by
  have e := h.eq
  rw [trimL_stop hs, List.append_nil] at e
  rw [e, Int.max_eq_left h.rate]
end Go.Proofs.YtbnhinpegbcbeaaGreat
end
section
namespace Go.K
open Go Go.Proofs.YtbnhinpegbcbeaaGreat
/-- The marks ahead of place i, then one, then none. -/
def marksI (f : Nat → Bool) (n i : Nat) (cur : Bool) : List Bool := (List.range n).map fun j => if j < i then f j else if j = i then cur else false
theorem marksI_len (f : Nat → Bool) (n i : Nat) (cur : Bool) : (marksI f n i cur).length = n := by simp [marksI]
theorem marksI_zero (f : Nat → Bool) (n : Nat) : marksI f n 0 false = List.replicate n false := by
  unfold marksI
  apply List.ext_getElem
  · simp
  · intro j h1 h2
    simp
theorem marksI_at {f : Nat → Bool} {n i : Nat} {cur : Bool} (h : i < n) : (marksI f n i cur)[i]'(by rw [marksI_len]; exact h) = cur := by
  simp [marksI]
theorem marksI_set {f : Nat → Bool} {n i : Nat} {cur x : Bool} (h : i < n) : (marksI f n i cur).set i x = marksI f n i x := by
  unfold marksI
  apply List.ext_getElem
  · simp
  · intro j h1 h2
    rw [List.getElem_set]
    by_cases e : i = j
    · subst e; simp
    · rw [if_neg e]
      simp only [List.getElem_map, List.getElem_range]
      by_cases h3 : j < i
      · rw [if_pos h3, if_pos h3]
      · rw [if_neg h3, if_neg h3, if_neg (fun h => e h.symm), if_neg (fun h => e h.symm)]
theorem marksI_next {f : Nat → Bool} {n i : Nat} : marksI f n i (f i) = marksI f n (i + 1) false := by
  unfold marksI
  apply List.map_congr_left
  intro j _
  by_cases h1 : j < i
  · rw [if_pos h1, if_pos (by omega)]
  · rw [if_neg h1]
    by_cases h2 : j = i
    · subst h2; rw [if_pos rfl, if_pos (by omega)]
    · rw [if_neg h2, if_neg (by omega)]; simp
theorem marksI_all {f : Nat → Bool} {n i : Nat} (h : n ≤ i) (cur : Bool) : marksI f n i cur = (List.range n).map f := by
  unfold marksI
  apply List.map_congr_left
  intro j hj
  rw [List.mem_range] at hj
  rw [if_pos (by omega)]
theorem confL_range (l : List Ent) (t : Tx) : (List.range l.length).map (fun j => hitE t (entD l j)) = confL l t := by
  unfold confL
  apply List.ext_getElem
  · simp
  · intro j h1 h2
    simp only [List.getElem_map, List.getElem_range]
    rw [entD_get (by simpa using h1)]
theorem may_mask {l : List Ent} (hn : (l.map (·.id)).Nodup) (x : Ent) : mayE l x = (sigT x.tx || (List.range l.length).any fun i => ((aboveL l x.tx).getD i false) && sigT (entD l i).tx) := by
  unfold mayE
  congr 1
  rw [Bool.eq_iff_iff, List.any_eq_true, List.any_eq_true]
  constructor
  · rintro ⟨s, hs, h⟩
    obtain ⟨i, hi, h1, rfl⟩ := mem_mask.1 hs
    refine ⟨i, List.mem_range.2 hi, ?_⟩
    rw [List.getD_eq_getElem?_getD, h1, entD_get hi]
    rw [(get_mem hn (List.getElem_mem hi)).2] at h
    simpa using h
  · rintro ⟨i, hi, h⟩
    rw [List.mem_range] at hi
    rw [Bool.and_eq_true, entD_get hi] at h
    refine ⟨l[i].id, mem_mask.2 ⟨i, hi, ?_, rfl⟩, ?_⟩
    · have h1 := h.1
      rw [List.getD_eq_getElem?_getD] at h1
      cases h2 : (aboveL l x.tx)[i]? with
      | none => rw [h2] at h1; simp at h1
      | some b => rw [h2] at h1; simp at h1; rw [h1]
    · rw [(get_mem hn (List.getElem_mem hi)).2]; exact h.2
end Go.K
end
section
namespace Go.Proofs.YtbnhinpegbcbeaaGreat
open Go Go.K
attribute [local irreducible] regK codeK retK KOp.wp K.Spec u32 leS vnS str zero32 sha2 encT idT sizeT checkT grantB idN stepR workL reachE findI dropG addG aboveL belowL idsOf feeD sizeD confL evL marksI evI
/-- What was found so far, for the input a of an entry. -/
def hitSo (t : Tx) (ins : List TIn) (a b : Nat) : Bool := (ins.take a).any (fun x => t.ins.any fun y => decide (x.p = y.p)) || (if h : a < ins.length then (t.ins.take b).any fun y => decide (ins[a].p = y.p) else false)
theorem hitSo_b {t : Tx} {ins : List TIn} {a b : Nat} (ha : a < ins.length) (hb : b < t.ins.length) : hitSo t ins a (b + 1) = (hitSo t ins a b || decide (ins[a].p = t.ins[b].p)) := by
  unfold hitSo
  rw [dif_pos ha, dif_pos ha, List.take_succ_eq_append_getElem hb, List.any_append, Bool.or_assoc]
  simp
theorem hitSo_a {t : Tx} {ins : List TIn} {a b : Nat} (ha : a < ins.length) (hb : t.ins.length ≤ b) : hitSo t ins a b = hitSo t ins (a + 1) 0 := by
  unfold hitSo
  rw [dif_pos ha, List.take_of_length_le hb, List.take_succ_eq_append_getElem ha, List.any_append, List.take_zero]
  simp
theorem hitSo_zero (t : Tx) (ins : List TIn) : hitSo t ins 0 0 = false := by
  unfold hitSo
  simp
theorem hitSo_all {t : Tx} {x : Ent} {a : Nat} (h : x.tx.ins.length ≤ a) : hitSo t x.tx.ins a 0 = hitE t x := by
  unfold hitSo hitE
  rw [dif_neg (by omega), List.take_of_length_le h, Bool.or_false]
attribute [local irreducible] hitSo
set_option maxHeartbeats 4000000 in
theorem rconf_spec {M : List Nat} {v : Value} {cs : List Value} {l : List Ent} {t : Tx} (w : World) (hl : SlR entR M w v l) (ht : txR.rel M w cs t) (hs : t.ins.length ≤ 1000) (hn : l.length ≤ 1000) (hE : ∀ x ∈ l, x.tx.ins.length ≤ 1000) :
    K.Spec Tryz.prog F.kedgeref16_Conflicts [v, .agg cs.toArray] w fun r w' => SlE boolE w' r (confL l t) ∧ Ext w w' ∧ ∀ b ∈ blkOf r, w.heap.size ≤ b := by
  obtain ⟨iv, ov, rfl, h1, h2, h3⟩ := ht
  have e0 : List.replicate l.length false = marksI (fun j => hitE t (entD l j)) l.length 0 false := (marksI_zero _ _).symm
  refine s_kedgeref16_Conflicts rfl ?_
  unfold k_kedgeref16_Conflicts
  refine ox ?_
  repeat' (first|(first|refine go1 ?_|refine zg (fun _ _=>?_)|refine zi (fun _ _=>?_))|(refine zL rfl (fun h => ?_) (fun h => ?_))|(refine zD (d := some 3) rfl rfl (fun bp wp xp ap (rp : Row wp ⟨bp, 0, none⟩ (txCs t iv ov)) hp0=>?_))|(refine zG (E := entR) (M := M) (l := l) rfl (SlR.ext hl (by exact fx)) ?_)|(refine st_mkBool (d := some 13) rfl rfl (by omega) (fun b w2 x2 a2 hb2 => ?_); rw [e0] at a2)|(refine c_loopV (fun (i : Nat) w' => Ext wp w' ∧ i ≤ l.length ∧ AtB w' b (marksI (fun j => hitE t (entD l j)) l.length i false)) (fun i => [(0, v), (3, .pointer (some ⟨bp, 0, none⟩)), (5, .slice (some ⟨b, 0, none⟩) l.length l.length), (6, .int .i64 i)]) (fun i => l.length - i) 0 ⟨rfl, rfl, rfl, rfl, trivial⟩ ⟨by exact fx, by simp, a2⟩ ?_; clear a2; rintro i ρ w3 ⟨x3, hi, a3⟩))
  · have hil : i < l.length := by omega
    have hxs := hE _ (List.getElem_mem hil)
    have hfi : hitE t (entD l i) = hitE t l[i] := by rw [entD_get hil]
    have hp2 : ∀ {w' : World}, Ext w2 w' → w.heap.size ≤ b := fun _ => by have := xp.size; omega
    repeat' (first|(first|refine go1 ?_|refine zg (fun _ _=>?_)|refine zi (fun _ _=>?_))|(refine zL rfl (fun h => ?_) (fun h => ?_))|(refine c_loopV (fun (a : Nat) w' => Ext wp w' ∧ a ≤ l[i].tx.ins.length ∧ AtB w' b (marksI (fun j => hitE t (entD l j)) l.length i (hitSo t l[i].tx.ins a 0))) (fun a => [(0, v), (3, .pointer (some ⟨bp, 0, none⟩)), (5, .slice (some ⟨b, 0, none⟩) l.length l.length), (6, .int .i64 i), (7, .int .i64 a)]) (fun a => l[i].tx.ins.length - a) 0 ⟨rfl, rfl, rfl, rfl, rfl, trivial⟩ ⟨x3, by simp, by rw [hitSo_zero]; exact a3⟩ ?_; clear a3 x3; rintro a ρ2 w4 ⟨x4, ha, a4⟩)|(refine st_elemR (d := some 23) (E := entR) (M := M) rfl rfl (n := i) (l := l) (SlR.ext hl (by exact fx)) rfl hil (fun ad cs r5 he => ?_); obtain ⟨iv2, ov2, rfl, q1, q2, q3⟩ := he)|(refine zG (d := some 27) (E := inR) (M := M) (l := l[i].tx.ins) rfl (SlR.ext q1 (by exact fx)) ?_))
    · have hal : a < l[i].tx.ins.length := by omega
      clear r5 q1 q2
      repeat' (first|(first|refine go1 ?_|refine zg (fun _ _=>?_)|refine zi (fun _ _=>?_))|(refine zL rfl (fun h => ?_) (fun h => ?_))|(refine c_loopV (fun (c : Nat) w' => Ext wp w' ∧ c ≤ t.ins.length ∧ AtB w' b (marksI (fun j => hitE t (entD l j)) l.length i (hitSo t l[i].tx.ins a c))) (fun c => [(0, v), (3, .pointer (some ⟨bp, 0, none⟩)), (5, .slice (some ⟨b, 0, none⟩) l.length l.length), (6, .int .i64 i), (7, .int .i64 a), (8, .int .i64 c)]) (fun c => t.ins.length - c) 0 ⟨rfl, rfl, rfl, rfl, rfl, rfl, trivial⟩ ⟨x4, by simp, a4⟩ ?_; clear a4 x4; rintro c ρ3 w5 ⟨x5, hc, a5⟩)|(refine zG (d := some 34) (E := inR) (M := M) (l := t.ins) rfl (SlR.ext h1 (by exact fx)) ?_))
      · have hcl : c < t.ins.length := by omega
        have hml := marksI_len (fun j => hitE t (entD l j)) l.length i (hitSo t l[i].tx.ins a c)
        have hat : (marksI (fun j => hitE t (entD l j)) l.length i (hitSo t l[i].tx.ins a c))[i]? = some (hitSo t l[i].tx.ins a c) := by rw [List.getElem?_eq_getElem (by omega), marksI_at hil]
        have hset := marksI_set (f := fun j => hitE t (entD l j)) (cur := hitSo t l[i].tx.ins a c) (x := hitSo t l[i].tx.ins a (c + 1)) hil
        have hnb := hitSo_b hal hcl
        rw [← pt_dec] at hnb
        generalize marksI (fun j => hitE t (entD l j)) l.length i (hitSo t l[i].tx.ins a c) = m at *
        generalize hitSo t l[i].tx.ins a c = cur at *
        generalize hnx : hitSo t l[i].tx.ins a (c + 1) = nxt at *
        repeat' (first|(first|refine go1 ?_|refine zg (fun _ _=>?_)|refine zi (fun _ _=>?_))|(refine st_elemR (d := some 40) (E := entR) (M := M) rfl rfl (n := i) (l := l) (SlR.ext hl (by exact fx)) rfl hil (fun ad cs r6 he => ?_); obtain ⟨iv3, ov3, rfl, q1, q2, q3⟩ := he)|(refine st_elemR (d := some 45) (E := inR) (M := M) rfl rfl (n := a) (l := l[i].tx.ins) (SlR.ext q1 (by exact fx)) rfl hal (fun ad cs r7 he => ?_); obtain ⟨wv, rfl, -⟩ := he)|(refine zE (d' := 9) (vs := l[i].tx.ins[a].p.cs) (fun _=>rfl) rfl rfl rfl (fun b9 w9 x9 a9 r9 hb9=>?_))|(refine st_elemR (d := some 51) (E := inR) (M := M) rfl rfl (n := c) (l := t.ins) (SlR.ext h1 (by exact fx)) rfl hcl (fun ad cs r8 he => ?_); obtain ⟨wv2, rfl, -⟩ := he)|(refine zE (d' := 10) (vs := t.ins[c].p.cs) (fun _=>rfl) rfl rfl rfl (fun b10 w10 x10 a10 r10 hb10=>?_))|(refine st_elemE (d := some 58) (E := boolE) rfl rfl (n := i) (l := m) (AtB.sl (by focus (repeat (first | assumption | (apply At.ext; assumption)))) hml.symm) rfl (by omega) (fun ad r11 => ?_); have r11 : Row _ ad [Value.bool cur] := (by have e := (List.getElem?_eq_some_iff.1 hat).2; rw [← e]; exact r11))|(refine zK (d := some 61) rfl (fun hm => ?_) (fun hm => ?_))|(refine zJ (d := some 67) (p := l[i].tx.ins[a].p.s = t.ins[c].p.s) rfl (fun hss => ?_) (fun hss => ?_))|(refine st_index (d := some 74) rfl rfl (by omega) ?_))
        all_goals
          refine st_storeB (m := m) (o := i) (v := nxt) rfl (congrArg Value.bool (by rw [hnb, hm]; first | rfl | (rw [decide_eq_true hss]; simp) | (rw [decide_eq_false hss]; rfl))) (by focus (repeat (first | assumption | (apply At.ext; assumption)))) (by omega) (fun w11 c11 a11 => ?_)
          have y11 : Ext wp w11 := (Ext.chg (w := wp) (by exact fx) c11).mono (fun y hy => .inr (by simp at hy; omega))
          repeat' (first|refine go1 ?_|refine zg (fun _ _=>?_)|refine zi (fun _ _=>?_))
          exact ⟨c + 1, ⟨rfl, rfl, rfl, rfl, rfl, rfl, trivial⟩, ⟨y11, by omega, by rw [hnx, ← hset]; exact a11⟩, by omega⟩
      · exact ⟨a + 1, ⟨rfl, rfl, rfl, rfl, rfl, trivial⟩, ⟨x5, by omega, by rw [← hitSo_a hal (by omega : t.ins.length ≤ c)]; exact a5⟩, by omega⟩
    · refine ⟨i + 1, ⟨rfl, rfl, rfl, rfl, trivial⟩, ⟨by exact fx, by omega, ?_⟩, by omega⟩
      have h9 := marksI_next (f := fun j => hitE t (entD l j)) (n := l.length) (i := i)
      rw [hfi, ← hitSo_all (t := t) (x := l[i]) (a := a) (by omega)] at h9
      rw [← h9]
      exact At.ext (by exact fx) a4
  · rw [marksI_all (by omega), confL_range] at a3
    exact x_ret rfl ⟨AtB.sl a3 (by rw [← confL_len]), xp.trans x3, by intro y hy; have hy : y ∈ [b] := hy; simp at hy; have := xp.size; omega⟩
end Go.Proofs.YtbnhinpegbcbeaaGreat
end
section
namespace Go.Proofs.YtbnhinpegbcbeaaGreat
open Go Go.K
theorem evI_zero (l : List Ent) (t : Tx) : evI l t 0 = List.replicate l.length false := by rw [evI]
attribute [local irreducible] regK codeK retK KOp.wp K.Spec u32 leS vnS str zero32 sha2 encT idT sizeT checkT grantB idN stepR workL reachE findI dropG addG aboveL belowL idsOf feeD sizeD confL evL marksI evI hitSo orTo sigT mayE
set_option maxHeartbeats 4000000 in
theorem rev_spec {M : List Nat} {v : Value} {cs : List Value} {l : List Ent} {t : Tx} (w : World) (hl : SlR entR M w v l) (ht : txR.rel M w cs t) (hs : t.ins.length ≤ 1000) (hn : l.length ≤ 1000) (hE : ∀ x ∈ l, x.tx.Sm) :
    K.Spec Tryz.prog F.kedgeref16_Evicted [v, .agg cs.toArray] w fun r w' => SlE boolE w' r (evL l t) ∧ Ext w w' ∧ ∀ b ∈ blkOf r, w.heap.size ≤ b := by
  have hqe : ∀ x ∈ l, x.tx.ins.length ≤ 1000 := fun x hx => (hE x hx).ins
  have ht0 := ht
  obtain ⟨iv, ov, rfl, h1, h2, h3⟩ := ht
  have e0 : List.replicate l.length false = evI l t 0 := (evI_zero _ _).symm
  have hcl := confL_len (l := l) (t := t)
  refine s_kedgeref16_Evicted rfl ?_
  unfold k_kedgeref16_Evicted
  refine ox ?_
  repeat' (first|(first|refine go1 ?_|refine zg (fun _ _=>?_)|refine zi (fun _ _=>?_))|(refine zL rfl (fun h => ?_) (fun h => ?_))|(refine zD (d := some 3) rfl rfl (fun bp wp xp ap (rp : Row wp ⟨bp, 0, none⟩ (txCs t iv ov)) hp0=>?_))|(refine zG (E := entR) (M := M) (l := l) rfl (SlR.ext hl (by exact fx)) ?_)|(refine st_mkBool (d := some 12) rfl rfl (by omega) (fun b w2 x2 a2 hb2 => ?_); rw [e0] at a2; have lb := a2.lt)|(refine zC (d := some 15) rfl (rconf_spec (M := M) (l := l) (cs := txCs t iv ov) (t := t) _ (SlR.ext hl (by exact fx)) (R.ext ht0 (by exact fx)) hs hn hqe) ?_; rintro vc w3 ⟨sc, x3, hbc⟩)|(have x03 : Ext wp w3 := (by exact fx); have sc3 : SlR (Go.K.R.flat boolE false) [b] w3 vc (confL l t) := SlE.toR (F := boolE) (ag := false) sc (fun y hy hm => by have := hbc y hy; simp at hm; omega); refine c_loopV (fun (i : Nat) w' => Ext wp w' ∧ i ≤ l.length ∧ AtB w' b (evI l t i) ∧ SlR (Go.K.R.flat boolE false) [b] w' vc (confL l t)) (fun i => [(0, v), (5, .slice (some ⟨b, 0, none⟩) l.length l.length), (6, vc), (7, .int .i64 i)]) (fun i => l.length - i) 0 ⟨rfl, rfl, rfl, rfl, trivial⟩ ⟨x03, by simp, At.ext (by exact fx) a2, sc3⟩ ?_; clear a2 sc sc3 x03 x2 x3; rintro i ρ w4 ⟨x4, hi, a4, s4⟩))
  · have hil : i < l.length := by omega
    have him : i < (confL l t).length := by omega
    have hci : (confL l t)[i] = hitE t l[i] := by
      have e : (confL l t)[i]? = some (hitE t l[i]) := by unfold confL; rw [List.getElem?_map, List.getElem?_eq_getElem hil]; rfl
      exact (List.getElem?_eq_some_iff.1 e).2
    have hlb := belowL_len l l[i].id
    have hle := evI_len (l := l) (t := t) i
    have hee : (evI l t i).length = (belowL l l[i].id).length := by omega
    have hstep : evI l t (i + 1) = if hitE t l[i] = true then orB (evI l t i) (belowL l l[i].id) else evI l t i := by rw [evI, entD_get hil]
    refine st_elemR (d := some 24) (E := Go.K.R.flat boolE false) (M := [b]) rfl rfl (n := i) (l := confL l t) s4 rfl him (fun ad cs r5 he => ?_)
    obtain rfl : cs = [Value.bool (confL l t)[i]] := he
    rw [hci] at r5
    repeat' (first|(first|refine go1 ?_|refine zg (fun _ _=>?_)|refine zi (fun _ _=>?_))|(refine zM rfl (fun hb => ?_) (fun hb => ?_))|(refine st_elemR (d := some 30) (E := entR) (M := M) rfl rfl (n := i) (l := l) (SlR.ext hl (by exact fx)) rfl hil (fun ad cs r6 he => ?_); obtain ⟨iv2, ov2, rfl, -⟩ := he)|(refine zC (d := some 33) rfl (below_spec (M := M) (l := l) l[i].id _ (SlR.ext hl (by exact fx)) hn hE) ?_; rintro vb w5 ⟨sb, x5, hbb⟩))
    · have hh : ¬ hitE t l[i] = true := by
        have : hitE t l[i] = false := by simpa using hb
        rw [this]; simp
      rw [if_neg hh] at hstep
      exact ⟨i + 1, ⟨rfl, rfl, rfl, rfl, trivial⟩, ⟨by exact fx, by omega, by rw [hstep]; exact At.ext (by exact fx) a4, SlR.ext s4 (by exact fx)⟩, by omega⟩
    · have hh : hitE t l[i] = true := by simpa using hb
      rw [if_pos hh] at hstep
      have lb4 := a4.lt
      have sb5 : SlR (Go.K.R.flat boolE false) [b] w5 vb (belowL l l[i].id) := SlE.toR (F := boolE) (ag := false) sb (fun y hy hm => by have := hbb y hy; simp at hm; omega)
      have x45 := x4.trans x5
      have a5 := At.ext x5 a4
      have s5 := SlR.ext s4 x5
      clear sb a4 s4 r5 r6 x4 x5
      repeat' (first|(first|refine go1 ?_|refine zg (fun _ _=>?_)|refine zi (fun _ _=>?_))|(refine zL rfl (fun h => ?_) (fun h => ?_))|(refine zG (E := entR) (M := M) (l := l) rfl (SlR.ext hl (by exact fx)) ?_)|(refine c_loopV (fun (k : Nat) w' => Ext wp w' ∧ k ≤ l.length ∧ AtB w' b (orTo (evI l t i) (belowL l l[i].id) k) ∧ SlR (Go.K.R.flat boolE false) [b] w' vc (confL l t) ∧ SlR (Go.K.R.flat boolE false) [b] w' vb (belowL l l[i].id)) (fun k => [(0, v), (5, .slice (some ⟨b, 0, none⟩) l.length l.length), (6, vc), (7, .int .i64 i), (8, vb), (9, .int .i64 k)]) (fun k => l.length - k) 0 ⟨rfl, rfl, rfl, rfl, rfl, rfl, trivial⟩ ⟨x45, by simp, by rw [orTo_zero]; exact a5, s5, sb5⟩ ?_; clear x45 a5 s5 sb5; rintro k ρ2 w6 ⟨x6, hk, a6, s6, sb6⟩))
      · have hkl : k < l.length := by omega
        have hka : k < (evI l t i).length := by omega
        have hkb : k < (belowL l l[i].id).length := by omega
        have hol := orTo_len (k := k) hee
        have hat := orTo_at hee hka
        rw [List.getElem?_eq_getElem hka] at hat
        have hset := orTo_set hee hka
        generalize hbk : (belowL l l[i].id)[k] = nb at *
        generalize hak : (evI l t i)[k] = na at *
        generalize hnx : orTo (evI l t i) (belowL l l[i].id) (k + 1) = nxt at *
        generalize hcm : orTo (evI l t i) (belowL l l[i].id) k = m at *
        repeat' (first|(first|refine go1 ?_|refine zg (fun _ _=>?_)|refine zi (fun _ _=>?_))|(refine st_elemE (d := some 44) (E := boolE) rfl rfl (n := k) (l := m) (AtB.sl (by focus (repeat (first | assumption | (apply At.ext; assumption)))) (by omega)) rfl (by omega) (fun ad r11 => ?_); have r11 : Row _ ad [Value.bool na] := (by have e := (List.getElem?_eq_some_iff.1 hat).2; rw [← e]; exact r11))|(refine zK (d := some 47) rfl (fun hm => ?_) (fun hm => ?_))|(refine st_elemR (d := some 49) (E := Go.K.R.flat boolE false) (M := [b]) rfl rfl (n := k) (l := belowL l l[i].id) (SlR.ext sb6 (by exact fx)) rfl hkb (fun ad cs r12 he => ?_); obtain rfl : cs = [Value.bool (belowL l l[i].id)[k]] := he; rw [hbk] at r12)|(refine st_index (d := some 52) rfl rfl (by omega) ?_))
        all_goals
          refine st_storeB (m := m) (o := k) (v := (na || nb)) rfl (congrArg Value.bool (by rw [hm]; first | rfl | simp)) (by focus (repeat (first | assumption | (apply At.ext; assumption)))) (by omega) (fun w11 c11 a11 => ?_)
          have y11 : Ext wp w11 := (Ext.chg (w := wp) (by exact fx) c11).mono (fun y hy => .inr (by simp at hy; omega))
          have t6 := s6.step c11 (M' := [b]) (fun y hy => .inl hy) (fun y hy => .inl hy)
          have tb6 := sb6.step c11 (M' := [b]) (fun y hy => .inl hy) (fun y hy => .inl hy)
          repeat' (first|refine go1 ?_|refine zg (fun _ _=>?_)|refine zi (fun _ _=>?_))
          exact ⟨k + 1, ⟨rfl, rfl, rfl, rfl, rfl, rfl, trivial⟩, ⟨y11, by omega, by rw [hnx, ← hset]; exact a11, t6, tb6⟩, by omega⟩
      · have hok : orTo (evI l t i) (belowL l l[i].id) k = evI l t (i + 1) := by rw [hstep]; exact orTo_all hee (by omega)
        exact ⟨i + 1, ⟨rfl, rfl, rfl, rfl, trivial⟩, ⟨x6, by omega, by rw [← hok]; exact a6, s6⟩, by omega⟩
  · have ei : i = l.length := by omega
    subst ei
    have e9 : evI l t l.length = evL l t := by unfold evL; rfl
    rw [e9] at a4
    exact x_ret rfl ⟨AtB.sl a4 (by rw [← evL_len]), xp.trans x4, by intro y hy; have hy : y ∈ [b] := hy; simp at hy; have := xp.size; omega⟩
theorem rsig_spec {M : List Nat} {cs : List Value} {t : Tx} (w : World) (ht : txR.rel M w cs t) (hs : t.ins.length ≤ 1000) : K.Spec Tryz.prog F.kedgeref16_signals [.agg cs.toArray] w fun r w' => r = .bool (sigT t) ∧ Ext w w' := by
  have hT : sigT t = t.ins.any fun x => decide (x.q < 4294967294) := by unfold sigT; rfl
  obtain ⟨iv, ov, rfl, h1, h2, h3⟩ := ht
  refine s_kedgeref16_signals rfl ?_
  unfold k_kedgeref16_signals
  refine ox ?_
  repeat' (first|(first|refine go1 ?_|refine zg (fun _ _=>?_)|refine zi (fun _ _=>?_))|(refine zL rfl (fun h => ?_) (fun h => ?_))|(refine zD (d := some 1) rfl rfl (fun bp wp xp ap (rp : Row wp ⟨bp, 0, none⟩ (txCs t iv ov)) hp0=>?_))|(refine zG (E := inR) (M := M) (l := t.ins) rfl (SlR.ext h1 (by exact fx)) ?_)|(refine c_loopV (fun (i : Nat) w' => Ext wp w' ∧ i ≤ t.ins.length ∧ ∀ x ∈ t.ins.take i, decide (x.q < 4294967294) = false) (fun i => [(1, .pointer (some ⟨bp, 0, none⟩)), (3, .int .i64 i)]) (fun i => t.ins.length - i) 0 ⟨rfl, rfl, trivial⟩ ⟨Ext.refl _, by simp, by simp⟩ ?_; rintro i ρ w3 ⟨x3, hi, hk⟩)|(have hil : i < t.ins.length := (by omega); refine st_elemR (d := some 14) (E := inR) (M := M) rfl rfl (n := i) (l := t.ins) (SlR.ext h1 (by exact fx)) rfl hil (fun ad cs r5 he => ?_); obtain ⟨wv, rfl, -⟩ := he))
  · rw [hT, List.any_eq_true.2 ⟨_, List.getElem_mem hil, decide_eq_true h⟩]
    exact x_ret rfl ⟨rfl, by exact fx⟩
  · refine ⟨i + 1, ⟨rfl, rfl, trivial⟩, ⟨by exact fx, by omega, fun x hx => ?_⟩, by omega⟩
    rw [List.take_succ_eq_append_getElem hil] at hx
    rcases List.mem_append.1 hx with h9 | h9
    · exact hk x h9
    · simp at h9; subst h9; exact decide_eq_false h
  · rw [List.take_of_length_le (by omega)] at hk
    rw [hT, List.any_eq_false.2 (fun x hx => by rw [hk x hx]; simp)]
    exact x_ret rfl ⟨rfl, by exact fx⟩
set_option maxHeartbeats 1000000 in
theorem rmay_spec {M : List Nat} {v : Value} {l : List Ent} {n : Nat} (w : World) (hl : SlR entR M w v l) (hn : n < l.length) (hlen : l.length ≤ 1000) (hE : ∀ x ∈ l, x.tx.Sm) (hnd : (l.map (·.id)).Nodup) :
    K.Spec Tryz.prog F.kedgeref16_May [v, .int .i64 (n : Nat)] w fun r w' => r = .bool (mayE l l[n]) ∧ Ext w w' := by
  have hm := may_mask hnd l[n]
  have hsn := hE _ (List.getElem_mem hn)
  have hal := aboveL_len l l[n].tx
  rw [hm]
  refine s_kedgeref16_May rfl ?_
  unfold k_kedgeref16_May
  refine ox ?_
  repeat' (first|(first|refine go1 ?_|refine zg (fun _ _=>?_)|refine zi (fun _ _=>?_))|(refine zL rfl (fun h => ?_) (fun h => ?_))|(refine st_elemR (d := some 10) (E := entR) (M := M) rfl rfl (n := n) (l := l) (SlR.ext hl (by exact fx)) rfl hn (fun ad cs r4 he => ?_); obtain ⟨iv, ov, rfl, q1, q2, q3⟩ := he)|(refine st_elemR (d := some 18) (E := entR) (M := M) rfl rfl (n := n) (l := l) (SlR.ext hl (by exact fx)) rfl hn (fun ad cs r5 he => ?_); obtain ⟨iv5, ov5, rfl, p1, p2, p3⟩ := he)|(refine zC (d := some 13) rfl (rsig_spec (M := M) (cs := txCs l[n].tx iv ov) (t := l[n].tx) _ ⟨iv, ov, rfl, by exact fx, by exact fx, q3.1, q3.2.1⟩ hsn.ins) ?_; rintro _ w6 ⟨rfl, x6⟩)|(refine zM rfl (fun hs1 => ?_) (fun hs1 => ?_))|(refine zC (d := some 21) rfl (above_spec (M := M) (l := l) (cs := txCs l[n].tx iv5 ov5) (t := l[n].tx) _ (SlR.ext hl (by exact fx)) ⟨iv5, ov5, rfl, by exact fx, by exact fx, p3.1, p3.2.1⟩ hsn hlen hE) ?_; rintro va w7 ⟨sa, x7, -⟩; have x07 : Ext w w7 := (by exact fx); clear r4 r5 q1 q2 p1 p2 x6 x7)|(refine zG (d := some 24) (E := entR) (M := M) (l := l) rfl (SlR.ext hl (by exact fx)) ?_)|(refine c_loopV (fun (i : Nat) w' => Ext w7 w' ∧ i ≤ l.length ∧ ∀ j, j < i → (((aboveL l l[n].tx).getD j false) && sigT (entD l j).tx) = false) (fun i => [(0, v), (6, va), (7, .int .i64 i)]) (fun i => l.length - i) 0 ⟨rfl, rfl, rfl, trivial⟩ ⟨Ext.refl _, by simp, by simp⟩ ?_; rintro i ρ w8 ⟨x8, hi, hk⟩)|(have hil : i < l.length := (by omega); have hsi := hE _ (List.getElem_mem hil); have e1 : entD l i = l[i] := entD_get hil; have e2 : (aboveL l l[n].tx).getD i false = (aboveL l l[n].tx)[i]'(by omega) := (by rw [List.getD_eq_getElem?_getD, List.getElem?_eq_getElem (by omega)]; rfl); refine st_elemR (d := some 30) (E := entR) (M := M) rfl rfl (n := i) (l := l) (SlR.ext hl (by exact fx)) rfl hil (fun ad cs r9 he => ?_); obtain ⟨iv9, ov9, rfl, g1, g2, g3⟩ := he)|(refine zC (d := some 33) rfl (rsig_spec (M := M) (cs := txCs l[i].tx iv9 ov9) (t := l[i].tx) _ ⟨iv9, ov9, rfl, by exact fx, by exact fx, g3.1, g3.2.1⟩ hsi.ins) ?_; rintro _ w10 ⟨rfl, x10⟩)|(refine st_elemE (d := some 36) (E := boolE) rfl rfl (n := i) (l := aboveL l l[n].tx) (SlE.ext (by exact fx) sa) rfl (by omega) (fun ad r11 => ?_); have r11 : Row _ ad [Value.bool ((aboveL l l[n].tx)[i]'(by omega))] := r11; rw [← e2] at r11)|(refine zK (d := some 39) rfl (fun hm1 => ?_) (fun hm1 => ?_)))
  · rw [hs1, Bool.true_or]
    exact x_ret rfl ⟨rfl, by exact fx⟩
  · rw [show ((List.range l.length).any fun i => (aboveL l l[n].tx).getD i false && sigT (entD l i).tx) = true from List.any_eq_true.2 ⟨i, List.mem_range.2 hil, by rw [hm1, e1, hs1]; rfl⟩, Bool.or_true]
    exact x_ret rfl ⟨rfl, x07.trans (by exact fx)⟩
  · exact ⟨i + 1, ⟨rfl, rfl, rfl, trivial⟩, ⟨by exact fx, by omega, fun j hj => by
      by_cases e : j = i
      · subst e; rw [e1, hs1, Bool.and_false]
      · exact hk j (by omega)⟩, by omega⟩
  · exact ⟨i + 1, ⟨rfl, rfl, rfl, trivial⟩, ⟨by exact fx, by omega, fun j hj => by
      by_cases e : j = i
      · subst e; rw [hm1, Bool.false_and]
      · exact hk j (by omega)⟩, by omega⟩
  · rw [hs1, Bool.false_or, show ((List.range l.length).any fun i => (aboveL l l[n].tx).getD i false && sigT (entD l i).tx) = false from List.any_eq_false.2 fun j hj => by rw [hk j (by have := List.mem_range.1 hj; omega)]; simp]
    exact x_ret rfl ⟨rfl, x07.trans x8⟩
end Go.Proofs.YtbnhinpegbcbeaaGreat
end
section
namespace Go.Proofs.YtbnhinpegbcbeaaGreat
open Go Go.K
attribute [local irreducible] regK codeK retK KOp.wp K.Spec u32 leS vnS str zero32 sha2 encT idT sizeT checkT grantB idN stepR workL reachE findI dropG addG aboveL belowL idsOf feeD sizeD confL evL marksI evI hitSo orTo sigT mayE feeOf szOf cmpR hitE
theorem rfee_spec (R' S : Nat) (hR : R' ≤ 100000000) (hS : S ≤ 1000000) (w : World) : K.Spec Tryz.prog F.kedgeref01_Fee [.int .i64 (R' : Nat), .int .i64 (S : Nat)] w fun r w' => r = .tuple #[.int .i64 (((R' * S + 999) / 1000 : Nat) : Int), .int .i64 0] ∧ Ext w w' := by
  have hp : R' * S ≤ 100000000 * 1000000 := Nat.mul_le_mul hR hS
  obtain ⟨p, hpq⟩ : ∃ p, p = R' * S := ⟨_, rfl⟩
  rw [← hpq] at hp ⊢
  refine s_kedgeref01_Fee rfl ?_
  unfold k_kedgeref01_Fee
  refine ox ?_
  repeat' (first|(refine st_fixV (d := some 24) (.int .i64 (p : Nat)) rfl (congrArg (fun n => some (Value.int .i64 n)) ((IntWalk.i64_in _ (by rw [← Int.natCast_mul, ← hpq]; omega)).trans (by rw [← Int.natCast_mul, ← hpq]))) ?_)|(refine st_quo (d := some 26) (n := p) (m := 1000) rfl rfl (by omega) (by omega) ?_)|(refine st_fixV (d := some 28) (.int .i64 ((p / 1000 * 1000 : Nat) : Int)) rfl (congrArg (fun n => some (Value.int .i64 n)) (IntWalk.i64_in _ (by omega))) ?_)|(first|refine go1 ?_|refine zg (fun _ _=>?_)|refine zi (fun _ _=>?_))|(refine zJ rfl (fun h => ?_) (fun h => ?_))|(refine zL rfl (fun h => ?_) (fun h => ?_)))
  all_goals first
    | (exfalso; omega)
    | exact x_ret rfl ⟨congrArg (fun n => Value.tuple #[.int .i64 n, .int .i64 0]) (by omega), by exact fx⟩
    | trace_state
set_option maxHeartbeats 2000000 in
theorem renough_spec {M : List Nat} {v : Value} {cs : List Value} {l : List Ent} {t : Tx} (fee : Int) (w : World) (hl : SlR entR M w v l) (ht : txR.rel M w cs t) (hs : t.Sm) (hc : checkT t = 0) (hn : l.length ≤ 1000) (hE : ∀ x ∈ l, EntOk x) (hf : ∀ x ∈ l, x.fee ≤ 1000000000000) :
    K.Spec Tryz.prog F.kedgeref16_Enough [v, .agg cs.toArray, .int .i64 fee] w fun r w' => r = .bool (enoughL l t fee) ∧ Ext w w' := by
  have hz := sz_of_check hs hc
  have hz2 := hz.sizeM
  have hgood : ∀ x ∈ l, goodB x.fee = true := fun x hx => (hE x hx).fee
  have hsz : ∀ x ∈ l, 0 ≤ x.size ∧ x.size ≤ (100000000000 : Nat) := fun x hx => (entOk_fit (hE x hx)).2
  have hsm : ∀ x ∈ l, x.tx.Sm := fun x hx => chk_sm (hE x hx).check
  have hqe : ∀ x ∈ l, x.tx.ins.length ≤ 1000 := fun x hx => (hsm x hx).ins
  have hcl := confL_len (l := l) (t := t)
  have hel := evL_len (l := l) (t := t)
  have hgb := gone_bound (t := t) (c := 1000000000000) (fun x hx => ⟨((goodB_iff _).1 (hE x hx).fee).1, hf x hx⟩)
  have hgb2 : ((1000000000000 : Nat) : Int) * l.length ≤ 1000000000000 * 1000 := by omega
  have hgone : feeOf l (evL l t) = goneF l t := by unfold goneF; rfl
  have hone : (1000 * sizeT t + 999) / 1000 = sizeT t := by omega
  have hen : enoughL l t fee = (l.all (fun x => !hitE t x || decide (cmpR fee (sizeT t : Nat) x.fee x.size > 0)) && (!l.any (hitE t) || decide (goneF l t + (sizeT t : Nat) ≤ fee))) := by unfold enoughL; rfl
  have ht0 := ht
  obtain ⟨iv, ov, rfl, h1, h2, h3⟩ := ht
  rw [hen]
  refine s_kedgeref16_Enough rfl ?_
  unfold k_kedgeref16_Enough
  refine ox ?_
  repeat' (first|(first|refine go1 ?_|refine zg (fun _ _=>?_)|refine zi (fun _ _=>?_))|(refine zL rfl (fun h => ?_) (fun h => ?_))|(refine zD (d := some 4) rfl rfl (fun bp wp xp ap (rp : Row wp ⟨bp, 0, none⟩ (txCs t iv ov)) hp0=>?_))|(refine zC (d := some 19) rfl (rconf_spec (M := M) (l := l) (cs := txCs t iv ov) (t := t) _ (SlR.ext hl (by exact fx)) (R.ext ht0 (by exact fx)) hs.ins hn hqe) ?_; rintro vc w3 ⟨sc, x3, -⟩)|(refine zC (d := some 22) rfl (rev_spec (M := M) (l := l) (cs := txCs t iv ov) (t := t) _ (SlR.ext hl (by exact fx)) (R.ext ht0 (by exact fx)) hs.ins hn hsm) ?_; rintro vg w4 ⟨sg, x4, -⟩)|(refine zC (d := some 26) rfl (rsum14_spec (M := M) (l := l) (m := evL l t) _ (SlR.ext hl (by exact fx)) (SlE.ext (by exact fx) sg) hel hn hgood hsz) ?_; rintro _ w5 ⟨rfl, x5⟩; rw [hgone])|(refine zC (d := some 30) rfl (rsize_spec (M := M) (cs := txCs t iv ov) (t := t) _ (R.ext ht0 (by exact fx)) hz) ?_; rintro _ w6 ⟨rfl, x6⟩)|(refine zC (d := some 33) rfl (rfee_spec 1000 (sizeT t) (by decide) hz2.2 _) ?_; rintro _ w7 ⟨rfl, x7⟩; rw [hone]; have sc7 := SlE.ext (show Ext w3 w7 by exact fx) sc; have x07 : Ext w w7 := (by exact fx); clear xp x3 x4 x5 x6 x7 sc sg)|(refine zG (E := entR) (M := M) (l := l) rfl (SlR.ext hl (by exact fx)) ?_)|(refine c_loopV (fun (i : Nat) w' => Ext w7 w' ∧ i ≤ l.length ∧ ∀ x ∈ l.take i, (!hitE t x || decide (cmpR fee (sizeT t : Nat) x.fee x.size > 0)) = true) (fun i => [(0, v), (2, .int .i64 fee), (7, vc), (9, .int .i64 (goneF l t)), (11, .int .i64 (sizeT t : Nat)), (12, .int .i64 (sizeT t : Nat)), (14, .bool ((l.take i).any (hitE t))), (15, .int .i64 i)]) (fun i => l.length - i) 0 ⟨rfl, rfl, rfl, rfl, rfl, rfl, rfl, rfl, trivial⟩ ⟨Ext.refl _, by simp, by simp⟩ ?_; rintro i ρ w8 ⟨x8, hi, hk⟩)|(have hil : i < l.length := (by omega); have hci : (confL l t)[i]'(by omega) = hitE t l[i] := (by have e : (confL l t)[i]? = some (hitE t l[i]) := (by unfold confL; rw [List.getElem?_map, List.getElem?_eq_getElem hil]; rfl); exact (List.getElem?_eq_some_iff.1 e).2); have htk : (l.take (i + 1)).any (hitE t) = ((l.take i).any (hitE t) || hitE t l[i]) := (by rw [List.take_succ_eq_append_getElem hil, List.any_append]; simp); refine st_elemE (d := some 44) (E := boolE) rfl rfl (n := i) (l := confL l t) (SlE.ext (by exact fx) sc7) rfl (by omega) (fun ad r9 => ?_); have r9 : Row _ ad [Value.bool ((confL l t)[i]'(by omega))] := r9; rw [hci] at r9)|(refine zM rfl (fun hb => ?_) (fun hb => ?_))|(refine st_elemR (d := some 51) (E := entR) (M := M) rfl rfl (n := i) (l := l) (SlR.ext hl (Ext.trans x07 (by exact fx))) rfl hil (fun ad cs r10 he => ?_); obtain ⟨iv10, ov10, rfl, -⟩ := he)|(refine st_elemR (d := some 56) (E := entR) (M := M) rfl rfl (n := i) (l := l) (SlR.ext hl (Ext.trans x07 (by exact fx))) rfl hil (fun ad cs r11 he => ?_); obtain ⟨iv11, ov11, rfl, -⟩ := he)|(refine zC (d := some 59) rfl (rcompare_spec _ _ _ _ _) ?_; rintro _ w12 ⟨rfl, x12⟩)|(refine zK rfl (fun hm1 => ?_) (fun hm1 => ?_))|(refine st_both ?_ ?_))
  · have hh : hitE t l[i] = false := by simpa using hb
    refine ⟨i + 1, ⟨rfl, rfl, rfl, rfl, rfl, rfl, ?_, rfl, trivial⟩, ⟨by exact fx, by omega, fun x hx => ?_⟩, by omega⟩
    · show _ = Value.bool ((l.take (i + 1)).any (hitE t))
      rw [htk, hh, Bool.or_false]; rfl
    · rw [List.take_succ_eq_append_getElem hil] at hx
      rcases List.mem_append.1 hx with h9 | h9
      · exact hk x h9
      · simp only [List.mem_singleton] at h9; subst h9; rw [hh]; rfl
  · have hh : hitE t l[i] = true := by simpa using hb
    rw [List.all_eq_false.2 ⟨l[i], List.getElem_mem hil, by rw [hh, decide_eq_false (by omega)]; simp⟩, Bool.false_and]
    exact x_ret rfl ⟨rfl, x07.trans (by exact fx)⟩
  · have hh : hitE t l[i] = true := by simpa using hb
    refine ⟨i + 1, ⟨rfl, rfl, rfl, rfl, rfl, rfl, ?_, rfl, trivial⟩, ⟨by exact fx, by omega, fun x hx => ?_⟩, by omega⟩
    · show _ = Value.bool ((l.take (i + 1)).any (hitE t))
      rw [htk, hh, Bool.or_true]; rfl
    · rw [List.take_succ_eq_append_getElem hil] at hx
      rcases List.mem_append.1 hx with h9 | h9
      · exact hk x h9
      · simp only [List.mem_singleton] at h9; subst h9; rw [decide_eq_true (by omega), Bool.or_true]
  · rw [List.take_of_length_le (by omega)] at hk hm1
    rw [List.all_eq_true.2 hk, hm1, Bool.true_or]
    exact x_ret rfl ⟨rfl, x07.trans (by exact fx)⟩
  · rw [List.take_of_length_le (by omega)] at hk hm1
    rw [List.all_eq_true.2 hk, hm1, Bool.false_or, Bool.true_and]
    exact x_ret rfl ⟨rfl, x07.trans (by exact fx)⟩
end Go.Proofs.YtbnhinpegbcbeaaGreat
end
section
namespace Go.K
open Go Go.Proofs.YtbnhinpegbcbeaaGreat
theorem idx_find {α : Type} (p : α → Bool) (l : List α) : (idxOf p l < 0 ∧ l.find? p = none) ∨ ∃ i, ∃ h : i < l.length, idxOf p l = (i : Nat) ∧ l.find? p = some l[i] := by
  induction l with
  | nil => exact .inl ⟨by unfold idxOf; simp, rfl⟩
  | cons x l ih =>
    by_cases hx : p x = true
    · refine .inr ⟨0, by simp, ?_, ?_⟩
      · exact idxOf_hit (i := 0) (by simp) hx (fun j hj => absurd hj (by omega))
      · rw [List.find?_cons_of_pos hx]; rfl
    · have e : idxOf p (x :: l) = if idxOf p l < 0 then -1 else idxOf p l + 1 := by
        unfold idxOf
        rw [List.findIdx?_cons, if_neg hx]
        cases l.findIdx? p with
        | none => rfl
        | some i => simp; omega
      rw [List.find?_cons_of_neg hx, e]
      rcases ih with ⟨h1, h2⟩ | ⟨i, hi, h1, h2⟩
      · exact .inl ⟨by rw [if_pos h1]; omega, h2⟩
      · exact .inr ⟨i + 1, by simpa using hi, by rw [if_neg (by omega), h1]; omega, by rw [h2]; simp⟩
theorem inB_mask {l : List Ent} {m : List Bool} (hn : (l.map (·.id)).Nodup) (hl : l.length = m.length) {k : Nat} (hk : k < l.length) : inB (idsOf l m) l[k].id = m[k]'(by omega) := by
  rw [Bool.eq_iff_iff, inB_iff, mem_mask]
  constructor
  · rintro ⟨i, hi, h1, h2⟩
    have := entD_inj hn hi hk (by rw [entD_get hi, entD_get hk]; exact h2)
    subst this
    exact (List.getElem?_eq_some_iff.1 h1).2
  · exact fun h => ⟨k, hk, by rw [List.getElem?_eq_getElem (by omega), h], rfl⟩
theorem inB_none {l : List Ent} {m : List Bool} (hid : ∀ x ∈ l, x.id.size = 32) : inB (idsOf l m) ⟨#[]⟩ = false := by
  rw [← Bool.not_eq_true, inB_iff, mem_mask]
  rintro ⟨i, hi, _, h2⟩
  have := hid _ (List.getElem_mem hi)
  rw [h2] at this
  exact absurd this (by decide)
/-- Whether a point is spent as it may not, by places. -/
def freshAt (l : List Ent) (t : Tx) (p : Pt) : Bool := outHas l p && (inB (idsOf l (evL l t)) p.s || !inB (idsOf l (confL l t)) (spId l p))
theorem freshP_any (l : List Ent) (t : Tx) : freshP l t = t.ins.any fun b => freshAt l t b.p := rfl
theorem freshAt_no {l : List Ent} {t : Tx} {p : Pt} (h : findI l p.s < 0) : freshAt l t p = false := by
  unfold freshAt outHas
  rcases idx_find (fun x : Ent => decide (x.id = p.s)) l with ⟨_, h2⟩ | ⟨i, hi, h1, _⟩
  · rw [(has_none h2).1]; rfl
  · unfold findI at h; omega
theorem find_at {l : List Ent} {s : ByteArray} (h : ¬ findI l s < 0) : ∃ k, ∃ hk : k < l.length, findI l s = (k : Nat) ∧ l[k].id = s ∧ hasE l s = true ∧ getE l s = l[k] := by
  rcases idx_find (fun x : Ent => decide (x.id = s)) l with ⟨h1, _⟩ | ⟨i, hi, h1, h2⟩
  · exact absurd h1 h
  · obtain ⟨e1, e2, _, e4⟩ := has_some h2
    exact ⟨i, hi, h1, e4, e1, e2⟩
theorem freshAt_yes {l : List Ent} {t : Tx} {p : Pt} (hn : (l.map (·.id)).Nodup) {k : Nat} (hk : k < l.length) (h2 : l[k].id = p.s) (h3 : hasE l p.s = true) (h4 : getE l p.s = l[k]) :
    freshAt l t p = (decide (p.i < (l[k].tx.outs.length : Int)) && ((evL l t)[k]'(by rw [← evL_len]; exact hk) || !inB (idsOf l (confL l t)) (spId l p))) := by
  unfold freshAt outHas
  rw [h3, h4, Bool.true_and, ← h2, inB_mask hn evL_len hk]
theorem spend_at {l : List Ent} {p : Pt} (h : ¬ spendI l p < 0) : ∃ s, ∃ hs : s < l.length, spendI l p = (s : Nat) ∧ spId l p = l[s].id := by
  rcases idx_find (fun x : Ent => spends x p) l with ⟨h1, _⟩ | ⟨i, hi, h1, h2⟩
  · exact absurd h1 h
  · exact ⟨i, hi, h1, by unfold spId spE; rw [h2]; rfl⟩
theorem spend_no {l : List Ent} {p : Pt} (h : spendI l p < 0) : spId l p = ⟨#[]⟩ := by
  rcases idx_find (fun x : Ent => spends x p) l with ⟨_, h2⟩ | ⟨i, hi, h1, _⟩
  · unfold spId spE; rw [h2]; rfl
  · unfold spendI at h; omega
end Go.K
end
