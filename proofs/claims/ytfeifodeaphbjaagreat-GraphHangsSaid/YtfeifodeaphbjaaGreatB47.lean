/- The walk of GraphBoth. -/
import Derived.Test.YtfeifodeaphbjaaGreatB46
section
namespace Go.Proofs.YtfeifodeaphbjaaGreat
open Go Go.K
attribute [local irreducible] regK codeK retK KOp.wp K.Spec u32 leS vnS str zero32 sha2 encT idT sizeT checkT grantB idN stepR workL reachE findI dropG addG aboveL belowL inS idsOf

/-- A cell that holds a slice of texts. -/
def slsR : R (List ByteArray) where
  k := 1
  pos := by decide
  ag := false
  rel := fun M w cs x => ∃ v, cs = [v] ∧ SlR strR M w v x
  len := fun ⟨_, h, _⟩ => by rw [h]; rfl
  one := fun ⟨v, h, hs⟩ u hu => by subst h; simp at hu; subst hu; exact hs.one
  step := fun ⟨v, h, hs⟩ c hL hM => ⟨v, h, hs.step c hL hM⟩
theorem Own.toS {B : Nat} {M : List Nat} {w : World} {v : Value} {l : List ByteArray} (h : Own strE T.string B w v l) (hM : ∀ b ∈ M, b < B) : SlR strR M w v l :=
  SlE.toR (F := strE) (ag := false) h.sl fun b hb hm => by have := h.base b hb; have := hM b hm; omega
theorem containsB_spec {v : Value} {l : List ByteArray} (a : ByteArray) (w : World) (hs : SlE strE w v l) (hn : l.length ≤ 1000000) : K.Spec Tryz.prog F.slices_Contains_L_string_string [v, .string a] w fun r w' => r = .bool (inS l a) ∧ w' = w :=
  spec_mono (containsS_spec a w hs (by omega)) fun r w' ⟨h1, h2⟩ => ⟨by rw [h1]; unfold inS; rfl, h2⟩
theorem idsOf_le (l : List Ent) (m : List Bool) : (idsOf l m).length ≤ l.length := idsOf_length l m
set_option maxHeartbeats 4000000 in
theorem both_law {v : Value} {sc : List ActG} (w : World) (hs : SlR actR [] w v sc) : K.Spec Tryz.prog F.kedgelaw14_GraphBoth [v] w fun r w' => r = .bool true ∧ Ext w w' := by
  refine s_kedgelaw14_GraphBoth rfl ?_
  unfold k_kedgelaw14_GraphBoth
  refine ox ?_
  repeat' (first|(first|refine go1 ?_|refine zg (fun _ _=>?_)|refine zi (fun _ _=>?_))|(refine zC rfl (filled_spec 12 _ hs (by decide)) ?_; rintro _ w1 ⟨g, M, u, l, rfl, G1, hu, hl, x1⟩)|(refine zC rfl (all_spec (M := M) (l := l) _ (G1.ext (by exact fx)).r (fun b hb => Nat.lt_of_lt_of_le (G1.lt b hb) (Ext.size (by exact fx))) (by omega)) ?_; rintro va w2 ⟨oa, x2⟩)|(refine st_makeMap (E := sK) (fv := id) (β := Value) (fun bm w3 x3 m3 hb3 => ?_)))
  have hM1 := G1.lt
  have sa : SlR entR M w2 va l := oa.slB hM1
  have hnd := G1.nodup
  have hok := G1.ok
  have s2 := x2.size
  have x02 : Ext w w2 := by exact fx
  have G2 := (G1.ext x2).r
  have hM2 : ∀ b ∈ M, b < w2.heap.size := fun b hb => Nat.lt_of_lt_of_le (hM1 b hb) s2
  have m3 : MapR sK slsR [bm] w3 bm [] := MapR.new m3
  have lm := m3.lt
  have hidl : ∀ m, (idsOf l m).length ≤ 12 := fun m => Nat.le_trans (idsOf_le l m) hl
  clear G1 hu oa x1 x2
  repeat' (first|(first|refine go1 ?_|refine zg (fun _ _=>?_)|refine zi (fun _ _=>?_))|(refine zL rfl (fun h => ?_) (fun h => ?_))|(refine zG (E := entR) (M := M) (l := l) rfl (SlR.ext sa (by exact fx)) ?_)|(refine c_loopV (fun (p : Nat × List (ByteArray × List ByteArray)) w' => Ext w2 w' ∧ bm < w'.heap.size ∧ p.1 ≤ l.length ∧ MapR sK slsR [bm] w' bm p.2 ∧ ∀ j (hj : j < l.length), j < p.1 → aget p.2 l[j].id = some (idsOf l (aboveL l l[j].tx))) (fun p => [(3, .pointer (some ⟨g, 0, none⟩)), (5, va), (6, .map (some bm)), (23, va), (24, .int .i64 (l.length : Nat)), (25, .int .i64 p.1)]) (fun p => l.length - p.1) (0, []) ⟨rfl, rfl, rfl, rfl, rfl, rfl, trivial⟩ ⟨x3, lm, by simp, m3, fun j hj h => by simp at h⟩ ?_; rintro ⟨i, mm⟩ ρ w4 ⟨x4, lm4, hi, m4, hc⟩; simp only at hi m4 hc; dsimp only))
  · clear x3 m3
    have hil : i < l.length := by omega
    have hsm := chk_sm (hok _ (List.getElem_mem hil)).check
    have s4 := x4.size
    refine st_elemR (d := some 27) (E := entR) (M := M) rfl rfl (n := i) (l := l) (SlR.ext sa x4) rfl hil (fun ad cs r4 he => ?_)
    obtain ⟨iv, ov, rfl, q1, q2, q3⟩ := he
    have i1 := q1.one
    have i2 := q2.one
    have G4 := G2.ext x4
    have hM4 : ∀ b ∈ M, b < w4.heap.size := fun b hb => by have := hM2 b hb; omega
    have hbm : ∀ b ∈ [bm], b < w4.heap.size := fun b hb => by simp at hb; omega
    have x04 : Unit → Ext w2 w4 := fun _ => x4
    clear x4
    repeat' (first|(first|refine go1 ?_|refine zg (fun _ _=>?_)|refine zi (fun _ _=>?_))|refine st_both ?_ ?_|(refine zE (d' := 8) (fun _=>rfl) rfl rfl (by simp [entCs, i1, i2]; exact ⟨rfl, rfl, rfl, rfl, rfl⟩) (fun b6 w6 x6 a6 (r6 : Row w6 ⟨b6, 0, none⟩ (entCs l[i] iv ov)) hb6=>?_))|(refine zC rfl (pabove_spec (M := M) (N := M) (l := l) (cs := txCs l[i].tx iv ov) (t := l[i].tx) _ (G4.ext (by exact fx)) (fun b hb => Nat.lt_of_lt_of_le (hM4 b hb) (Ext.size (by exact fx))) ⟨iv, ov, rfl, by exact fx, by exact fx, q3.1, q3.2.1⟩ hsm.ins (by omega)) ?_; rintro vb w7 ⟨ob, x7⟩; have ob4 := Own.lower ob (Ext.size (show Ext w4 _ by exact fx)); have sb := Own.toS ob4 hbm; clear ob ob4)|(refine st_mapUpdateR (KE := sK) (F := slsR) (M := [bm]) (k := l[i].id) (v := idsOf l (aboveL l l[i].tx)) (cs := [vb]) rfl rfl rfl (MapR.ext m4 (by exact fx)) ⟨vb, rfl, SlR.ext sb (by exact fx)⟩ (by simp) rfl rfl (fun w8 c8 m8 => ?_); have x48 : Chg [bm] w4 w8 := Ext.chg (by exact fx) c8))
    all_goals
      have x28 : Ext w2 w8 := (Ext.chg (x04 ()) x48).mono (by intro q hq; simp at hq; subst hq; exact .inr hb3)
      refine ⟨(i + 1, aset mm l[i].id (idsOf l (aboveL l l[i].tx))), ⟨rfl, rfl, rfl, rfl, rfl, rfl, trivial⟩, ⟨x28, Nat.lt_of_lt_of_le lm4 x48.size, by simp; omega, m8, fun j hj hji => ?_⟩, by simp; omega⟩
      show aget (aset mm l[i].id _) _ = _
      rw [aget_set']
      by_cases e : i = j
      · subst e; rw [if_pos rfl]
      · rw [if_neg (fun e2 => e (entD_inj hnd hil hj (by rw [entD_get hil, entD_get hj]; exact e2)))]
        exact hc j hj (by have : j < i + 1 := hji; omega)
  · have hall : ∀ j (hj : j < l.length), aget mm l[j].id = some (idsOf l (aboveL l l[j].tx)) := fun j hj => hc j hj (by omega)
    clear x3 m3 hc hi h
    have sa4 := SlR.ext sa x4
    have G4 := G2.ext x4
    have s4 := x4.size
    have x04 : Ext w w4 := x02.trans x4
    have hM4 : ∀ b ∈ M, b < w4.heap.size := fun b hb => by have := hM2 b hb; omega
    clear x4 x02 sa G2
    repeat' (first|(first|refine go1 ?_|refine zg (fun _ _=>?_)|refine zi (fun _ _=>?_))|(refine zL rfl (fun h => ?_) (fun h => ?_))|(refine zG (E := entR) (M := M) (l := l) rfl (SlR.ext sa4 (by exact fx)) ?_)|(refine c_loopV (fun (i : Nat) w' => Ext w4 w' ∧ i ≤ l.length) (fun i => [(3, .pointer (some ⟨g, 0, none⟩)), (5, va), (6, .map (some bm)), (37, va), (38, .int .i64 (l.length : Nat)), (39, .int .i64 i)]) (fun i => l.length - i) 0 ⟨rfl, rfl, rfl, rfl, rfl, rfl, trivial⟩ ⟨Ext.refl _, by simp⟩ ?_; rintro i ρ w5 ⟨x5, hi⟩))
    · have hil : i < l.length := by omega
      refine st_elemR (d := some 41) (E := entR) (M := M) rfl rfl (n := i) (l := l) (SlR.ext sa4 x5) rfl hil (fun ad cs r4 he => ?_)
      obtain ⟨iv, ov, rfl, q1, q2, q3⟩ := he
      have i1 := q1.one
      have i2 := q2.one
      repeat (first|refine go ?_|refine zg (fun _ _=>?_)|refine zi (fun _ _=>?_))
      refine zE (d' := 10) (fun _=>rfl) rfl rfl (by simp [entCs, i1, i2]; exact ⟨rfl, rfl, rfl, rfl, rfl⟩) (fun bx w6 x6 a6 (r6 : Row w6 ⟨bx, 0, none⟩ (entCs l[i] iv ov)) hb6=>?_)
      have x46 := x5.trans x6
      have sa6 := SlR.ext sa4 x46
      have G6 := G4.ext x46
      have m6 := MapR.ext m4 x46
      have hM6 : ∀ b ∈ M, b < w6.heap.size := fun b hb => Nat.lt_of_lt_of_le (hM4 b hb) x46.size
      clear x5 x6 a6 r4 q1 q2
      repeat' (first|(first|refine go1 ?_|refine zg (fun _ _=>?_)|refine zi (fun _ _=>?_))|(refine zL rfl (fun h => ?_) (fun h => ?_))|(refine zG (E := entR) (M := M) (l := l) rfl (SlR.ext sa6 (by exact fx)) ?_)|(refine c_loopV (fun (j : Nat) w' => Ext w6 w' ∧ j ≤ l.length) (fun j => [(3, .pointer (some ⟨g, 0, none⟩)), (5, va), (6, .map (some bm)), (10, .pointer (some ⟨bx, 0, none⟩)), (37, va), (38, .int .i64 (l.length : Nat)), (39, .int .i64 i), (43, va), (44, .int .i64 (l.length : Nat)), (45, .int .i64 j)]) (fun j => l.length - j) 0 ⟨rfl, rfl, rfl, rfl, rfl, rfl, rfl, rfl, rfl, rfl, trivial⟩ ⟨Ext.refl _, by simp⟩ ?_; rintro j ρ w7 ⟨x7, hj⟩))
      · have hjl : j < l.length := by omega
        refine st_elemR (d := some 47) (E := entR) (M := M) rfl rfl (n := j) (l := l) (SlR.ext sa6 x7) rfl hjl (fun ad cs r4 he => ?_)
        obtain ⟨iv2, ov2, rfl, q1, q2, q3⟩ := he
        have i1 := q1.one
        have i2 := q2.one
        repeat (first|refine go ?_|refine zg (fun _ _=>?_)|refine zi (fun _ _=>?_))
        refine zE (d' := 12) (fun _=>rfl) rfl rfl (by simp [entCs, i1, i2]; exact ⟨rfl, rfl, rfl, rfl, rfl⟩) (fun bY w8 x8 a8 (r8 : Row w8 ⟨bY, 0, none⟩ (entCs l[j] iv2 ov2)) hb8=>?_)
        have x68 := x7.trans x8
        have G8 := G6.ext x68
        have m8 := MapR.ext m6 x68
        have r68 := r6.ext x68
        have hM8 : ∀ b ∈ M, b < w8.heap.size := fun b hb => Nat.lt_of_lt_of_le (hM6 b hb) x68.size
        have x68' : Unit → Ext w6 w8 := fun _ => x68
        clear x7 x8 a8 r4 q1 q2 x68
        repeat' (first|(refine c_cutV (a := .seq (.reg true (.join (.cons ⟨some 49, _, _⟩ _) _)) _) (fun (_ : Unit) w' => Ext w8 w') (fun _ => [(3, .pointer (some ⟨g, 0, none⟩)), (5, va), (6, .map (some bm)), (10, .pointer (some ⟨bx, 0, none⟩)), (12, .pointer (some ⟨bY, 0, none⟩)), (37, va), (38, .int .i64 (l.length : Nat)), (39, .int .i64 i), (43, va), (44, .int .i64 (l.length : Nat)), (45, .int .i64 j)]) ?_ ?_)|(have hn2 := hne; refine st_joinV (b := .cons ⟨some 68, _, _⟩ _) (fun (v65 : Value) w' => Ext w8 w' ∧ SlE strE w' v65 (idsOf l (belowL l l[j].id))) (fun v65 => [(3, .pointer (some ⟨g, 0, none⟩)), (5, va), (6, .map (some bm)), (10, .pointer (some ⟨bx, 0, none⟩)), (12, .pointer (some ⟨bY, 0, none⟩)), (37, va), (38, .int .i64 (l.length : Nat)), (39, .int .i64 i), (43, va), (44, .int .i64 (l.length : Nat)), (45, .int .i64 j), (54, .bool true), (61, .bool (inS (idsOf l (aboveL l l[i].tx)) l[j].id)), (65, v65), (67, .string l[i].id)]) ?_ ?_)|(rintro v65 ρ2 w12 ⟨x12, (s65 : SlE strE w12 v65 _)⟩; try dsimp only)|(exact ⟨vb, ⟨rfl, rfl, rfl, rfl, rfl, rfl, rfl, rfl, rfl, rfl, rfl, rfl, rfl, rfl, rfl, trivial⟩, by exact fx, by exact fx⟩)|(rintro ⟨⟩ ρ3 w13 x13; try dsimp only)|(exact ⟨(), ⟨rfl, rfl, rfl, rfl, rfl, rfl, rfl, rfl, rfl, rfl, rfl, trivial⟩, by exact fx⟩)|(first|refine go1 ?_|refine zg (fun _ _=>?_)|refine zi (fun _ _=>?_))|refine st_both ?_ ?_|(refine zK rfl (fun hne => ?_) (fun heq => ?_))|(refine st_lookupR1 (d := some 58) (KE := sK) (F := slsR) (M := [bm]) (k := l[i].id) rfl rfl (MapR.ext m8 (by exact fx)) rfl rfl (fun y cs hy hr => ?_) (fun hn => absurd hn (by rw [hall i hil]; simp)); rw [hall i hil] at hy; injection hy with hy; subst hy; obtain ⟨vl, rfl, hsl⟩ := hr; have hsl := SlR.toE (F := strE) (ag := false) hsl)|(refine st_lookupR1 (d := some 74) (KE := sK) (F := slsR) (M := [bm]) (k := l[i].id) rfl rfl (MapR.ext m8 (by exact fx)) rfl rfl (fun y cs hy hr => ?_) (fun hn => absurd hn (by rw [hall i hil]; simp)); rw [hall i hil] at hy; injection hy with hy; subst hy; obtain ⟨vl, rfl, hsl⟩ := hr; have hsl := SlR.toE (F := strE) (ag := false) hsl)|(refine st_lookupR1 (d := some 90) (KE := sK) (F := slsR) (M := [bm]) (k := l[i].id) rfl rfl (MapR.ext m8 (by exact fx)) rfl rfl (fun y cs hy hr => ?_) (fun hn => absurd hn (by rw [hall i hil]; simp)); rw [hall i hil] at hy; injection hy with hy; subst hy; obtain ⟨vl, rfl, hsl⟩ := hr; have hsl := SlR.toE (F := strE) (ag := false) hsl)|(refine st_lookupR1 (d := some 81) (KE := sK) (F := slsR) (M := [bm]) (k := l[j].id) rfl rfl (MapR.ext m8 (by exact fx)) rfl rfl (fun y cs hy hr => ?_) (fun hn => absurd hn (by rw [hall j hjl]; simp)); rw [hall j hjl] at hy; injection hy with hy; subst hy; obtain ⟨vl2, rfl, hsl2⟩ := hr; have hsl2 := SlR.toE (F := strE) (ag := false) hsl2; have hle2 := hidl (aboveL l l[j].tx))|(refine zC rfl (containsB_spec (l := idsOf l (aboveL l l[i].tx)) l[j].id _ (SlE.ext (by exact fx) hsl) (Nat.le_trans (hidl _) (by decide))) ?_; rintro _ w' ⟨rfl, hw'⟩; rw [hw']; clear hw' w')|(refine zC rfl (containsB_spec (l := idsOf l (belowL l l[j].id)) l[i].id _ (SlE.ext (by exact fx) s65) (Nat.le_trans (hidl _) (by decide))) ?_; rintro _ w' ⟨rfl, hw'⟩; rw [hw']; clear hw' w'; rw [← both_eq hnd hil hjl (by simpa using hn2)]; generalize inS (idsOf l (aboveL l l[i].tx)) l[j].id = B; cases B)|(refine zC rfl (pbelow_spec (M := M) (l := l) l[j].id _ (G8.ext (by exact fx)) (fun b hb => Nat.lt_of_lt_of_le (hM8 b hb) (Ext.size (by exact fx))) (by omega)) ?_; rintro vb w10 ⟨ob, x10⟩; have sb := ob.sl)|(refine st_len rfl (SlE.ext (by exact fx) hsl2) ?_)|(refine zL rfl (fun h6 => ?_) (fun h6 => ?_))|(refine zM rfl (fun htr => ?_) (fun hfl => ?_))|(refine c_loopV (fun (k : Nat) w' => Ext w13 w' ∧ k ≤ (idsOf l (aboveL l l[j].tx)).length) (fun k => [(3, .pointer (some ⟨g, 0, none⟩)), (5, va), (6, .map (some bm)), (10, .pointer (some ⟨bx, 0, none⟩)), (12, .pointer (some ⟨bY, 0, none⟩)), (37, va), (38, .int .i64 (l.length : Nat)), (39, .int .i64 i), (43, va), (44, .int .i64 (l.length : Nat)), (45, .int .i64 j), (81, vl2), (82, .int .i64 ((idsOf l (aboveL l l[j].tx)).length : Nat)), (83, .int .i64 k)]) (fun k => (idsOf l (aboveL l l[j].tx)).length - k) 0 ⟨rfl, rfl, rfl, rfl, rfl, rfl, rfl, rfl, rfl, rfl, rfl, rfl, rfl, rfl, trivial⟩ ⟨by exact fx, by simp⟩ ?_; rintro k ρ6 w14 ⟨x14, hk⟩; have sl14 := SlE.ext (Ext.trans (by exact fx) x14) hsl2)|(have hkl : k < (idsOf l (aboveL l l[j].tx)).length := (by omega); refine st_elemE (d := some 85) (E := strE) rfl rfl (n := k) (l := idsOf l (aboveL l l[j].tx)) (SlE.ext (by exact fx) sl14) rfl hkl (fun ad r85 => ?_); have r85 : Row _ ad [Value.string (idsOf l (aboveL l l[j].tx))[k]] := r85)|(refine zC rfl (containsB_spec (l := idsOf l (aboveL l l[i].tx)) (idsOf l (aboveL l l[j].tx))[k] _ (SlE.ext (by exact fx) hsl) (Nat.le_trans (hidl _) (by decide))) ?_; rintro _ w' ⟨rfl, hw'⟩; rw [hw']; clear hw' w'; rw [both_tr hnd hil hjl htr _ (List.getElem_mem hkl)]))
        · exact ⟨k + 1, ⟨rfl, rfl, rfl, rfl, rfl, rfl, rfl, rfl, rfl, rfl, rfl, rfl, rfl, rfl, trivial⟩, ⟨by exact fx, by omega⟩, by omega⟩
        · exact ⟨j + 1, ⟨rfl, rfl, rfl, rfl, rfl, rfl, rfl, rfl, rfl, rfl, trivial⟩, ⟨Ext.trans (x68' ()) (by exact fx), by omega⟩, by omega⟩
        · exact ⟨j + 1, ⟨rfl, rfl, rfl, rfl, rfl, rfl, rfl, rfl, rfl, rfl, trivial⟩, ⟨Ext.trans (x68' ()) (by exact fx), by omega⟩, by omega⟩
      · have x67 : Ext w6 w7 := x7
        have r67 := r6.ext x7
        have G7 := G6.ext x7
        have hM7 : ∀ b ∈ M, b < w7.heap.size := fun b hb => Nat.lt_of_lt_of_le (hM6 b hb) x7.size
        have x67 : Unit → Ext w6 w7 := fun _ => x7
        clear x7 r6
        repeat' (first|(first|refine go1 ?_|refine zg (fun _ _=>?_)|refine zi (fun _ _=>?_))|refine st_both ?_ ?_|(refine zC rfl (pbelow_spec (M := M) (l := l) l[i].id _ (G7.ext (by exact fx)) (fun b hb => Nat.lt_of_lt_of_le (hM7 b hb) (Ext.size (by exact fx))) (by omega)) ?_; rintro vb w10 ⟨ob, x10⟩; have sb := ob.sl)|(refine zC rfl (containsB_spec (l := idsOf l (belowL l l[i].id)) l[i].id _ (SlE.ext (by exact fx) sb) (Nat.le_trans (hidl _) (by decide))) ?_; rintro _ w' ⟨rfl, hw'⟩; rw [hw']; clear hw' w'; rw [both_self hnd hil]))
        all_goals exact ⟨i + 1, ⟨rfl, rfl, rfl, rfl, rfl, rfl, trivial⟩, ⟨Ext.trans (x46.trans (x67 ())) (by exact fx), by omega⟩, by omega⟩
    · refine zC rfl (wakes14_spec _) ?_
      rintro _ w6 ⟨rfl, x6⟩
      repeat (first|refine go ?_|refine zg (fun _ _=>?_)|refine zi (fun _ _=>?_))
      exact x_ret rfl ⟨rfl, (x04.trans x5).trans x6⟩
end Go.Proofs.YtfeifodeaphbjaaGreat
end
