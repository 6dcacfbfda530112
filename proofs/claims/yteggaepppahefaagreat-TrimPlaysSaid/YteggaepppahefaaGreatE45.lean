/- Contracts: scores, the worst entry, and trimming, by the document. Plain: a transaction that was made of one number is good. Contracts: what the document fixes of graphs. -/
import Derived.Test.YteggaepppahefaaGreatE44
set_option linter.unusedVariables false
set_option linter.unusedSimpArgs false
section
namespace Go.Proofs.YteggaepppahefaaGreat
open Go Go.K
attribute [local irreducible] regK codeK retK KOp.wp K.Spec u32 leS vnS str zero32 sha2 encT idT sizeT checkT grantB idN stepR workL reachE findI dropG addG aboveL belowL idsOf feeD sizeD feeOf szOf scoreL cmpR rateR sizeL trimL wMask leftL dropAll
attribute [local irreducible] worstI worstE
theorem rscore_spec {M : List Nat} {v : Value} {l : List Ent} {n : Nat} (w : World) (hl : SlR entR M w v l) (hn : n < l.length) (hlen : l.length ≤ 1000) (hE : ∀ x ∈ l, EntOk x) :
    K.Spec Tryz.prog F.kedgeref19_Score [v, .int .i64 (n : Nat)] w fun r w' => r = .tuple #[.int .i64 (scoreL l l[n]).1, .int .i64 (scoreL l l[n]).2] ∧ Ext w w' := by
  have hgood : ∀ x ∈ l, goodB x.fee = true := fun x hx => (hE x hx).fee
  have hsz : ∀ x ∈ l, 0 ≤ x.size ∧ x.size ≤ (100000000000 : Nat) := fun x hx => (entOk_fit (hE x hx)).2
  have hsm : ∀ x ∈ l, x.tx.Sm := fun x hx => chk_sm (hE x hx).check
  have hB := belowL_len l l[n].id
  have es : scoreL l l[n] = if cmpR (feeOf l (belowL l l[n].id)) (szOf l (belowL l l[n].id)) l[n].fee l[n].size > 0 then (feeOf l (belowL l l[n].id), szOf l (belowL l l[n].id)) else (l[n].fee, l[n].size) := by unfold scoreL; rfl
  refine s_kedgeref19_Score rfl ?_
  unfold k_kedgeref19_Score
  refine ox ?_
  repeat' (first|(first|refine go1 ?_|refine zg (fun _ _=>?_)|refine zi (fun _ _=>?_))|(refine st_elemR (d := some 13) (E := entR) (M := M) rfl rfl (n := n) (l := l) (SlR.ext hl (by exact fx)) rfl hn (fun ad cs r4 he => ?_); obtain ⟨iv, ov, rfl, -⟩ := he)|(refine st_elemR (d := some 27) (E := entR) (M := M) rfl rfl (n := n) (l := l) (SlR.ext hl (by exact fx)) rfl hn (fun ad cs r5 he => ?_); obtain ⟨iv2, ov2, rfl, -⟩ := he)|(refine st_elemR (d := some 32) (E := entR) (M := M) rfl rfl (n := n) (l := l) (SlR.ext hl (by exact fx)) rfl hn (fun ad cs r6 he => ?_); obtain ⟨iv3, ov3, rfl, -⟩ := he)|(refine st_elemR (d := some 42) (E := entR) (M := M) rfl rfl (n := n) (l := l) (SlR.ext hl (by exact fx)) rfl hn (fun ad cs r7 he => ?_); obtain ⟨iv4, ov4, rfl, -⟩ := he)|(refine st_elemR (d := some 47) (E := entR) (M := M) rfl rfl (n := n) (l := l) (SlR.ext hl (by exact fx)) rfl hn (fun ad cs r8 he => ?_); obtain ⟨iv5, ov5, rfl, -⟩ := he)|(refine zC (d := some 16) rfl (below_spec (M := M) (l := l) l[n].id _ (SlR.ext hl (by exact fx)) hlen hsm) ?_; rintro vb w2 ⟨sb, x2, -⟩)|(refine zC (d := some 20) rfl (rsum14_spec (M := M) (l := l) (m := belowL l l[n].id) _ (SlR.ext hl (by exact fx)) (SlE.ext (by exact fx) sb) hB hlen hgood hsz) ?_; rintro _ w3 ⟨rfl, x3⟩)|(refine zC (d := some 35) rfl (rcompare_spec _ _ _ _ _) ?_; rintro _ w4 ⟨rfl, x4⟩)|(refine zL rfl (fun h => ?_) (fun h => ?_))|(refine st_both ?_ ?_))
  all_goals first
    | (rw [es, if_pos h]; exact x_ret rfl ⟨rfl, by exact fx⟩)
    | (rw [es, if_neg h]; exact x_ret rfl ⟨rfl, by exact fx⟩)
    | trace_state
theorem rworst_spec {M : List Nat} {v : Value} {l : List Ent} (w : World) (hl : SlR entR M w v l) (hlen : l.length ≤ 1000) (hE : ∀ x ∈ l, EntOk x) :
    K.Spec Tryz.prog F.kedgeref19_Worst [v] w fun r w' => r = .int .i64 (worstI l l.length) ∧ Ext w w' := by
  have h00 : worstI l 0 = -1 := by rw [worstI]
  refine s_kedgeref19_Worst rfl ?_
  unfold k_kedgeref19_Worst
  refine ox ?_
  repeat' (first|(first|refine go1 ?_|refine zg (fun _ _=>?_)|refine zi (fun _ _=>?_))|(refine zG (E := entR) (M := M) (l := l) rfl (SlR.ext hl (by exact fx)) ?_)|(refine c_loopV (fun (i : Nat) w' => Ext w w' ∧ i ≤ l.length) (fun i => [(0, v), (3, .int .i64 (worstI l i)), (4, .int .i64 i)]) (fun i => l.length - i) 0 ⟨rfl, by rw [h00]; rfl, rfl, trivial⟩ ⟨Ext.refl _, Nat.zero_le _⟩ ?_; rintro i ρ w1 ⟨x1, hi⟩; have hw := worstI_lt l i; have hws : worstI l (i + 1) = if worstI l i < 0 ∨ cmpR (scoreL l (entD l i)).1 (scoreL l (entD l i)).2 (scoreL l (entD l (worstI l i).toNat)).1 (scoreL l (entD l (worstI l i).toNat)).2 ≤ 0 then (i : Int) else worstI l i := (by rw [worstI]))|(refine zL rfl (fun h => ?_) (fun h => ?_))|(refine zC (d := some 22) rfl (rscore_spec (M := M) (l := l) (n := i) _ (SlR.ext hl (by exact fx)) (by omega) hlen hE) ?_; rintro _ w2 ⟨rfl, x2⟩; have hil : i < l.length := (by omega); have hkl : (worstI l i).toNat < l.length := (by omega); have hkw : worstI l i = ((worstI l i).toNat : Nat) := (by omega))|(refine zC (d := some 28) (congrArg (fun n => [v, Value.int .i64 n]) hkw) (rscore_spec (M := M) (l := l) (n := (worstI l i).toNat) _ (SlR.ext hl (by exact fx)) hkl hlen hE) ?_; rintro _ w3 ⟨rfl, x3⟩)|(refine zC (d := some 35) rfl (rcompare_spec _ _ _ _ _) ?_; rintro _ w4 ⟨rfl, x4⟩))
  · rw [if_pos (.inl h)] at hws
    exact ⟨i + 1, ⟨rfl, congrArg (Value.int .i64) hws.symm, rfl, trivial⟩, ⟨x1, by omega⟩, by omega⟩
  · rw [if_pos (.inr (by rw [entD_get hil, entD_get hkl]; exact h))] at hws
    exact ⟨i + 1, ⟨rfl, congrArg (Value.int .i64) hws.symm, rfl, trivial⟩, ⟨by exact fx, by omega⟩, by omega⟩
  · rw [if_neg (by rw [entD_get hil, entD_get hkl]; exact fun h2 => h2.elim ‹_› h)] at hws
    exact ⟨i + 1, ⟨rfl, congrArg (Value.int .i64) hws.symm, rfl, trivial⟩, ⟨by exact fx, by omega⟩, by omega⟩
  · obtain rfl : i = l.length := by omega
    exact x_ret rfl ⟨rfl, x1⟩
theorem app_step {a b c a' b' : List Nat} {w : World} (ha : ∀ x ∈ a', x ∈ a ∨ w.heap.size ≤ x) (hb : ∀ x ∈ b', x ∈ b ∨ w.heap.size ≤ x) : ∀ x ∈ a' ++ (b' ++ c), x ∈ a ++ (b ++ c) ∨ w.heap.size ≤ x := fun x hx => by
  rcases List.mem_append.1 hx with h | h
  · exact (ha x h).imp (fun h => List.mem_append_left _ h) id
  · rcases List.mem_append.1 h with h | h
    · exact (hb x h).imp (fun h => List.mem_append_right _ (List.mem_append_left _ h)) id
    · exact .inl (List.mem_append_right _ (List.mem_append_right _ h))
/-- A step of the loop of the document's trimming. -/
structure RTrimI (w : World) (l : List Ent) (n : Int) (M : List Nat) (L : List Ent) (vL : Value) (G : List ByteArray) (vG : Value) (R : Int) (w' : World) : Prop where
  ext : Ext w w'
  sl : SlR entR (blkOf vG ++ M) w' vL L
  own : Own strE T.string w.heap.size w' vG G
  sub : L.Sublist l
  eq : trimL n l = ((trimL n L).1, G ++ (trimL n L).2.1, max R (trimL n L).2.2)
  rate : 0 ≤ R
  len : G.length + L.length ≤ l.length
theorem RTrimI.stop {w w' : World} {l L : List Ent} {n R : Int} {M : List Nat} {vL vG : Value} {G : List ByteArray} (h : RTrimI w l n M L vL G vG R w') (hs : L.length = 0 ∨ sizeL L ≤ n) : trimL n l = (L, G, R) := by
  have e := h.eq
  rw [trimL_stop hs, List.append_nil] at e
  rw [e, Int.max_eq_left h.rate]
set_option maxHeartbeats 2000000 in
theorem rtrim_spec {M : List Nat} {v : Value} {l : List Ent} (n : Int) (w : World) (hl : SlR entR M w v l) (hM : ∀ b ∈ M, b < w.heap.size) (hlen : l.length ≤ 1000) (hE : ∀ x ∈ l, EntOk x) (hnd : (l.map (·.id)).Nodup) :
    K.Spec Tryz.prog F.kedgeref19_Trim [v, .int .i64 n] w fun r w' => ∃ vL vG, r = .tuple #[vL, vG, .int .i64 (trimL n l).2.2] ∧ SlR entR (blkOf vG ++ M) w' vL (trimL n l).1 ∧ Own strE T.string w.heap.size w' vG (trimL n l).2.1 ∧ Ext w w' := by
  have hI : RTrimI w l n M l v [] (.slice none 0 0) 0 w := ⟨Ext.refl _, hl, Own.nil _ _ _, List.Sublist.refl _, by
    have := (trim_rate (m := n) hnd).1
    rw [List.nil_append, Int.max_eq_right this], Int.le_refl _, by simp⟩
  refine s_kedgeref19_Trim rfl ?_
  unfold k_kedgeref19_Trim
  refine ox ?_
  repeat' (first|(first|refine go1 ?_|refine zg (fun _ _=>?_)|refine zi (fun _ _=>?_))|(refine c_loopV (fun (p : List Ent × Value × List ByteArray × Value × Int) w' => RTrimI w l n M p.1 p.2.1 p.2.2.1 p.2.2.2.1 p.2.2.2.2 w') (fun p => [(0, p.2.1), (1, .int .i64 n), (7, p.2.2.2.1), (8, .int .i64 p.2.2.2.2)]) (fun p => p.1.length) (l, v, [], .slice none 0 0, 0) ⟨rfl, rfl, rfl, rfl, trivial⟩ hI ?_; clear hI; rintro ⟨L, vL, G, vG, R⟩ ρ w1 I1; simp only at I1; dsimp only))
  have hLl : L.length ≤ 1000 := by have := I1.len; omega
  have hndL : (L.map (·.id)).Nodup := (I1.sub.map _).nodup hnd
  have hEL : ∀ x ∈ L, EntOk x := fun x hx => hE x (I1.sub.subset hx)
  have hsm : ∀ x ∈ L, x.tx.Sm := fun x hx => chk_sm (hEL x hx).check
  have hfit : ∀ x ∈ L, 0 ≤ x.size ∧ x.size ≤ (100000000000 : Nat) := fun x hx => (entOk_fit (hEL x hx)).2
  have sL := I1.sl
  have h00 : sizeL (L.take 0) = 0 := by rw [List.take_zero]; unfold sizeL; rfl
  have hr1 := rateR_nonneg (scoreL L (worstE L)).1 (scoreL L (worstE L)).2
  have hr2 := rateR_le (scoreL L (worstE L)).1 (scoreL L (worstE L)).2
  repeat' (first|(first|refine go1 ?_|refine zg (fun _ _=>?_)|refine zi (fun _ _=>?_))|(refine zG (E := entR) (M := blkOf vG ++ M) (l := L) rfl (SlR.ext sL (by exact fx)) ?_)|(refine zL rfl (fun h => ?_) (fun h => ?_))|(refine c_loopV (fun (i : Nat) w' => Ext w1 w' ∧ i ≤ L.length) (fun i => [(0, vL), (1, .int .i64 n), (7, vG), (8, .int .i64 R), (9, .int .i64 (sizeL (L.take i))), (10, .int .i64 i)]) (fun i => L.length - i) 0 ⟨rfl, rfl, rfl, rfl, by rw [h00]; rfl, rfl, trivial⟩ ⟨Ext.refl _, Nat.zero_le _⟩ ?_; rintro i ρ w3 ⟨x3, hi⟩; have b1 := sizeL_bound (c := 100000000000) (l := L.take i) (fun x hx => hfit x (List.mem_of_mem_take hx)); have b2 : (L.take i).length ≤ L.length := (by rw [List.length_take]; omega))|(have hil : i < L.length := (by omega); have b3 := hfit _ (List.getElem_mem hil); refine st_elemR (d := some 31) (E := entR) (M := blkOf vG ++ M) rfl rfl (n := i) (l := L) (SlR.ext sL (by exact fx)) rfl hil (fun ad cs r4 he => ?_); obtain ⟨iv, ov, rfl, q1, q2, q3⟩ := he))
  · refine ⟨i + 1, ⟨rfl, rfl, rfl, rfl, ?_, rfl, trivial⟩, ⟨by exact fx, by omega⟩, by omega⟩
    show _ = Value.int .i64 (sizeL (L.take (i + 1)))
    rw [sizeL_take hil]; rfl
  · rw [List.take_of_length_le (by omega)] at h
    have e := I1.stop (.inr h)
    rw [e]
    exact x_ret rfl ⟨vL, vG, rfl, sL.ext x3, I1.own.ext x3, I1.ext.trans x3⟩
  · rw [List.take_of_length_le (by omega)] at h
    have h0 : 0 < L.length := by omega
    have hwl := worst_lt h0
    have hww : worstI L L.length = ((worstI L L.length).toNat : Nat) := by have := (worstI_lt L L.length).2.2 h0; omega
    have hwe : L[(worstI L L.length).toNat] = worstE L := by unfold worstE; rw [entD_get hwl]
    have x03 : Ext w w3 := I1.ext.trans x3
    have s03 := x03.size
    have sL3 := sL.ext x3
    have o3 := I1.own.ext x3
    have hMb : ∀ b ∈ M, b < w3.heap.size := fun b hb => by have := hM b hb; omega
    have hvG := Own.blk_lt o3
    have hlB := belowL_len L (worstE L).id
    have ll := I1.len
    have hids := idsOf_length L (belowL L (worstE L).id)
    have hask : askR (scoreL L (worstE L)) = min (rateR (scoreL L (worstE L)).1 (scoreL L (worstE L)).2 + 1000) 100000000 := rfl
    have hR := I1.rate
    clear sL x3
    repeat' (first|(refine c_cutV (a := .seq (.reg false (.cons ⟨some 57, _, _⟩ _)) _) (fun (_ : Unit) w' => Ext w3 w') (fun _ => [(0, vL), (1, .int .i64 n), (7, vG), (8, .int .i64 R), (11, .int .i64 (worstI L L.length)), (14, .int .i64 (askR (scoreL L (worstE L))))]) ?_ ?_; rotate_left; (rintro ⟨⟩ ρ3 w7 x7; try dsimp only); rotate_left)|(refine c_cutV (a := .seq (.reg false (.cons ⟨some 59, _, _⟩ _)) _) (fun (_ : Unit) w' => Ext w7 w') (fun _ => [(0, vL), (1, .int .i64 n), (7, vG), (8, .int .i64 (max R (askR (scoreL L (worstE L))))), (11, .int .i64 (worstI L L.length))]) ?_ ?_; rotate_left; (rintro ⟨⟩ ρ4 w8 x8; try dsimp only); rotate_left)|(first|refine go1 ?_|refine zg (fun _ _=>?_)|refine zi (fun _ _=>?_))|(refine zC (d := some 42) rfl (rworst_spec (M := blkOf vG ++ M) (l := L) _ (SlR.ext sL3 (by exact fx)) hLl hEL) ?_; rintro _ w4 ⟨rfl, x4⟩)|(refine zC (d := some 46) (congrArg (fun n => [vL, Value.int .i64 n]) hww) (rscore_spec (M := blkOf vG ++ M) (l := L) (n := (worstI L L.length).toNat) _ (SlR.ext sL3 (by exact fx)) hwl hLl hEL) ?_; rintro _ w5 ⟨rfl, x5⟩; rw [hwe])|(refine zC (d := some 52) rfl (rrate_spec _ _ _) ?_; rintro _ w6 ⟨rfl, x6⟩)|(refine zL rfl (fun h => ?_) (fun h => ?_))|(refine st_elemR (d := some 66) (E := entR) (M := blkOf vG ++ M) (n := (worstI L L.length).toNat) (l := L) rfl (congrArg (Value.int .i64) hww) (SlR.ext sL3 (by exact fx)) rfl hwl (fun ad cs r9 he => ?_); rw [hwe] at he; obtain ⟨iv9, ov9, rfl, -⟩ := he)|(refine zC (d := some 69) rfl (below_spec (M := blkOf vG ++ M) (l := L) (worstE L).id _ (SlR.ext sL3 (by exact fx)) hLl hsm) ?_; rintro vm w10 ⟨sm, x10, hvm⟩))
    · exact ⟨(), ⟨rfl, rfl, rfl, rfl, rfl, congrArg (Value.int .i64) (by rw [hask]; omega), trivial⟩, by exact fx⟩
    · exact ⟨(), ⟨rfl, rfl, rfl, rfl, rfl, congrArg (Value.int .i64) (by rw [hask]; omega), trivial⟩, by exact fx⟩
    · exact ⟨(), ⟨rfl, rfl, rfl, congrArg (Value.int .i64) (by omega), rfl, trivial⟩, Ext.refl _⟩
    · exact ⟨(), ⟨rfl, rfl, rfl, congrArg (Value.int .i64) (by omega), rfl, trivial⟩, Ext.refl _⟩
    obtain ⟨m, hm⟩ : ∃ m, m = wMask L := ⟨_, rfl⟩
    have em : belowL L (worstE L).id = m := by rw [hm]; unfold wMask; rfl
    rw [em] at sm hlB hids
    have x310 : Ext w3 w10 := (x7.trans x8).trans x10
    have s38 := (x7.trans x8).size
    have s810 := x10.size
    have sL10 := sL3.ext x310
    have o10 := o3.ext x310
    have sm10 : SlR (Go.K.R.flat boolE false) (blkOf (Value.slice none 0 0) ++ (blkOf vG ++ M)) w10 vm m := SlE.toR (F := boolE) (ag := false) sm (fun b hb h => by
      have h1 := hvm b hb
      rcases List.mem_append.1 h with h | h
      · simp [blkOf] at h
      · rcases List.mem_append.1 h with h | h
        · have := hvG b h; omega
        · have := hMb b h; omega)
    have x010 : Ext w w10 := x03.trans x310
    have lf0 : leftL (L.take 0) (m.take 0) = [] := by rw [List.take_zero, List.take_zero]; unfold leftL; rfl
    have id0 : idsOf (L.take 0) (m.take 0) = [] := by rw [List.take_zero, List.take_zero]; unfold idsOf; rfl
    clear x4 x5 x6 x7 x8 r9 x10 sm sL3 o3 x310 hvm
    repeat' (first|(first|refine go1 ?_|refine zg (fun _ _=>?_)|refine zi (fun _ _=>?_))|(refine c_loopV (fun (p : Nat × Value × Value) w' => Ext w w' ∧ p.1 ≤ L.length ∧ SlR entR (blkOf p.2.2 ++ (blkOf p.2.1 ++ M)) w' vL L ∧ SlR (Go.K.R.flat boolE false) (blkOf p.2.2 ++ (blkOf p.2.1 ++ M)) w' vm m ∧ OwnR entR T.api_Entry w.heap.size (blkOf p.2.1 ++ M) w' p.2.2 (leftL (L.take p.1) (m.take p.1)) ∧ Own strE T.string w.heap.size w' p.2.1 (G ++ idsOf (L.take p.1) (m.take p.1)) ∧ ∀ b ∈ blkOf p.2.1, b ∉ blkOf p.2.2) (fun p => [(0, vL), (1, .int .i64 n), (7, p.2.1), (8, .int .i64 (max R (askR (scoreL L (worstE L))))), (16, vm), (17, p.2.2), (18, .int .i64 p.1)]) (fun p => L.length - p.1) (0, vG, .slice none 0 0) ⟨rfl, rfl, rfl, rfl, rfl, rfl, rfl, trivial⟩ ⟨x010, Nat.zero_le _, sL10, sm10, by rw [lf0]; exact OwnR.nil _ _ _ _, by rw [id0, List.append_nil]; exact o10, by simp [blkOf]⟩ ?_; clear x010 sL10 sm10 o10; rintro ⟨i, vG1, vl⟩ ρ5 w11 ⟨x11, hi, sL11, sm11, oL, oG, dj⟩; simp only at hi sL11 sm11 oL oG dj; dsimp only)|(refine zG (E := entR) (M := blkOf vl ++ (blkOf vG1 ++ M)) (l := L) rfl (SlR.ext sL11 (by exact fx)) ?_)|(refine zL rfl (fun h => ?_) (fun h => ?_))|(have hil : i < L.length := (by omega); have him : i < m.length := (by omega); refine st_elemR (d := some 78) (E := Go.K.R.flat boolE false) (M := blkOf vl ++ (blkOf vG1 ++ M)) rfl rfl (n := i) (l := m) sm11 rfl him (fun ad cs r5 he => ?_); obtain rfl : cs = [Value.bool m[i]] := he)|(refine zM rfl (fun hb => ?_) (fun hb => ?_))|(refine st_elemR (d := some 83) (E := entR) (M := blkOf vl ++ (blkOf vG1 ++ M)) rfl rfl (n := i) (l := L) (SlR.ext sL11 (by exact fx)) rfl hil (fun ad cs r6 he => ?_); obtain ⟨iv, ov, rfl, q1, q2, q3⟩ := he)|(refine st_elemR (d := some 91) (E := entR) (M := blkOf vl ++ (blkOf vG1 ++ M)) rfl rfl (n := i) (l := L) (SlR.ext sL11 (by exact fx)) rfl hil (fun ad cs r6 he => ?_); obtain ⟨iv, ov, rfl, q1, q2, q3⟩ := he)|(refine zI (d := some 86) (cs := [.string L[i].id]) rfl (fun b9 w12 x12 a12 hb9 => ?_))|(refine zI (d := some 93) (cs := entCs L[i] iv ov) rfl (fun b9 w12 x12 a12 hb9 => ?_)))
    · have htk := idsOf_length (L.take i) (m.take i)
      have htl : (L.take i).length = i := by rw [List.length_take]; omega
      have s11 := x11.size
      have s12 := x12.size
      have hlt := oL.lt
      refine st_appendX (d := some 87) (E := strE) (v := vG1) (l2 := [L[i].id]) rfl (oG.ext x12) (by omega) rfl rfl (sl_new a12 rfl) rfl rfl (by simp only [List.length_append, List.length_cons, List.length_nil]; omega) (fun v5 w13 o13 _ c13 hb13 => ?_)
      have hst := app_step (a := blkOf vl) (b := blkOf vG1) (c := M) (a' := blkOf vl) (b' := blkOf v5) (w := w12) (fun _ h => .inl h) hb13
      have hL : ∀ b ∈ blkOf vG1, b ∈ blkOf vl ++ (blkOf vG1 ++ M) ∨ w12.heap.size ≤ b := fun b hb => .inl (List.mem_append_right _ (List.mem_append_left _ hb))
      repeat' (first|refine go1 ?_|refine zg (fun _ _=>?_)|refine zi (fun _ _=>?_))
      refine ⟨(i + 1, v5, vl), ⟨rfl, rfl, rfl, rfl, rfl, rfl, rfl, trivial⟩, ⟨((x11.trans x12).chg c13).mono (fun b hb => .inr (oG.base b hb)), by simp only; omega, (sL11.ext x12).step c13 hL hst, (sm11.ext x12).step c13 hL hst, ?_, ?_, fun b hb h => (hb13 b hb).elim (fun h2 => dj b h2 h) (fun h2 => by have := hlt b h; omega)⟩, by simp only; omega⟩
      · simp only
        rw [leftL_take hlB hil, if_pos hb, List.append_nil]
        exact (oL.ext x12).step c13 (fun b hb => ⟨dj b hb, .inl (List.mem_append_left _ hb)⟩) (fun b hb => (List.mem_append.1 hb).elim (fun h => (hb13 b h).imp (fun h => List.mem_append_left _ h) id) (fun h => .inl (List.mem_append_right _ h)))
      · simp only
        rw [idsOf_take hlB hil, if_pos hb, ← List.append_assoc]
        exact o13
    · have htl : (leftL (L.take i) (m.take i)).length ≤ L.length := Nat.le_trans (leftL_sub _ _).length_le (by rw [List.length_take]; omega)
      have s11 := x11.size
      have s12 := x12.size
      have hlt := Own.blk_lt oG
      refine st_append1 (d := some 94) (E := entR) (M := blkOf vG1 ++ M) (v := vl) (cs := entCs L[i] iv ov) (a := L[i]) rfl rfl (oL.ext x12) (by omega) rfl rfl a12 ⟨iv, ov, rfl, q1.ext x12, q2.ext x12, q3⟩ (by omega) (fun v5 w13 o13 c13 hb13 => ?_)
      have hst := app_step (a := blkOf vl) (b := blkOf vG1) (c := M) (a' := blkOf v5) (b' := blkOf vG1) (w := w12) hb13 (fun _ h => .inl h)
      have hL : ∀ b ∈ blkOf vl, b ∈ blkOf vl ++ (blkOf vG1 ++ M) ∨ w12.heap.size ≤ b := fun b hb => .inl (List.mem_append_left _ hb)
      repeat' (first|refine go1 ?_|refine zg (fun _ _=>?_)|refine zi (fun _ _=>?_))
      refine ⟨(i + 1, vG1, v5), ⟨rfl, rfl, rfl, rfl, rfl, rfl, rfl, trivial⟩, ⟨((x11.trans x12).chg c13).mono (fun b hb => .inr (oL.base b hb)), by simp only; omega, (sL11.ext x12).step c13 hL hst, (sm11.ext x12).step c13 hL hst, ?_, ?_, fun b hb h => (hb13 b h).elim (fun h2 => dj b hb h2) (fun h2 => by have := hlt b hb; omega)⟩, by simp only; omega⟩
      · simp only
        rw [leftL_take hlB hil, if_neg (by rw [hb]; simp)]
        exact o13
      · simp only
        rw [idsOf_take hlB hil, if_neg (by rw [hb]; simp), List.append_nil]
        exact (oG.ext x12).chg c13 dj
    · obtain rfl : i = L.length := by omega
      rw [leftL_all hlB] at oL
      rw [List.take_length, List.take_of_length_le (by omega)] at oG
      have hll := leftL_len L m
      refine ⟨(leftL L m, vl, G ++ idsOf L m, vG1, max R (askR (scoreL L (worstE L)))), ⟨rfl, rfl, rfl, rfl, trivial⟩, ⟨x11, oL.sl (fun b hb h => (List.mem_append.1 hb).elim (fun h2 => dj b h2 h) (fun h2 => by have := hM b h2; have := oL.base b h; omega)), oG, (leftL_sub _ _).trans I1.sub, ?_, by simp only; omega, by simp only [List.length_append]; omega⟩, by rw [hm]; exact left_less hndL h0⟩
      rw [I1.eq, trimL_step hndL (by omega), hm]
      simp only [List.append_assoc, Int.max_assoc]
  · have e := I1.stop (.inl (by omega))
    rw [e]
    exact x_ret rfl ⟨vL, vG, rfl, sL, I1.own, I1.ext⟩
end Go.Proofs.YteggaepppahefaaGreat
end
section
namespace Go.K
open Go
theorem made_one {z : Small} {t : Tx} (h : Made z t) (h1 : z.frm.length = 1) (h2 : z.outs = 0) (h3 : z.long = 0) : checkT t = 0 ∧ grantB t = false ∧ t.outs.length = 1 := by
  have hi : t.ins.length = 1 := by rw [h.ins, h1]; rfl
  have ho : t.outs.length = 1 := by rw [h.outs, h2, h3]; rfl
  obtain ⟨x, hx⟩ : ∃ x, t.ins = [x] := List.length_eq_one_iff.1 hi
  obtain ⟨y, hy⟩ : ∃ y, t.outs = [y] := List.length_eq_one_iff.1 ho
  have hx1 := h.each x (by rw [hx]; simp)
  have hy1 := h.eacho y (by rw [hy]; simp)
  have hb : isBase x.p = false := by
    unfold isBase
    have : ¬ x.p.i = baseP.i := by have := hx1.hi; have := hx1.lo; show ¬ x.p.i = 4294967295; omega
    rw [decide_eq_false this, Bool.and_false]
  have hg : goodB y.v = true := by rw [goodB_iff]; have := hy1.lo; have := hy1.hi; omega
  refine ⟨?_, ?_, ho⟩
  · have c1 : countsB t = true := by
      unfold countsB
      rw [hx, hy]
      simp [hx1.wit]
    have c2 : longB t = false := by
      unfold longB
      rw [hx, hy]
      have e1 : longOut y = false := by unfold longOut; exact decide_eq_false (by have := hy1.s; omega)
      have e2 : longIn x = false := by unfold longIn; rw [hx1.wit]; rfl
      simp [e1, e2]
    have c3 : formedT t = true := by
      unfold formedT
      rw [hx]
      have e : badIn t x = false := by
        unfold badIn
        rw [hb, hx1.id]; simp
      simp [e]
    have c4 : twiceB t = false := by
      unfold twiceB points
      rw [hx]; simp [dupB]
    have c5 : sumE (values t) = 0 := by
      unfold sumE values
      rw [hy]
      simp [sumOk, hg]
    unfold checkT
    rw [c1, c2, c3, c4, c5]; rfl
  · unfold grantB
    rw [hx]
    simp [hb]
theorem addG_new {t : Tx} {fee : Int} (h1 : checkT t = 0) (h2 : grantB t = false) (h3 : goodB fee = true) : addG [] t fee = ([⟨t, idT t, fee, (sizeT t : Nat)⟩], 0) := by
  unfold addG
  rw [if_neg (by simpa using h1), if_neg (by rw [h2]; decide), if_neg (by rw [h3]; decide)]
  simp
theorem addG_twice {t : Tx} {fee : Int} {x : Ent} (h1 : checkT t = 0) (h2 : grantB t = false) (h3 : goodB fee = true) (hx : x.id = idT t) : addG [x] t fee = ([x], 7) := by
  unfold addG
  rw [if_neg (by simpa using h1), if_neg (by rw [h2]; decide), if_neg (by rw [h3]; decide), if_pos (by simp [hx])]
theorem above_one {x : Ent} {t : Tx} (h : hangs t x = true) : idsOf [x] (aboveL [x] t) = [x.id] := by
  have e : stepR (fun i => hangs t (entD [x] i)) (hangE [x]) 1 1 0 = true := stepR_base (by decide) (by rw [entD_get (by simp)]; exact h)
  unfold aboveL reachL
  show idsOf [x] [stepR _ _ 1 1 0] = _
  rw [e]; rfl
theorem below_one (x : Ent) : idsOf [x] (belowL [x] x.id) = [x.id] := by
  have e0 : findI [x] x.id = 0 := by
    unfold findI idxOf
    simp [List.findIdx?_cons]
  have e : stepR (fun i => decide ((i : Int) = findI [x] x.id)) (fun k i => hangE [x] i k) 1 1 0 = true := stepR_base (by decide) (by rw [e0]; decide)
  unfold belowL reachL
  show idsOf [x] [stepR _ _ 1 1 0] = _
  rw [e]; rfl
theorem dropG_none {x : Ent} {id : ByteArray} (h : x.id ≠ id) : dropG [x] id = ([x], 8) := by
  have e0 : findI [x] id = -1 := by
    unfold findI idxOf
    simp [List.findIdx?_cons, h]
  unfold dropG
  rw [e0]; rfl
end Go.K
end
section
namespace Go.Proofs.YteggaepppahefaaGreat
open Go Go.K
attribute [local irreducible] regK codeK retK KOp.wp K.Spec u32 leS vnS str zero32 sha2 encT idT sizeT checkT grantB idN stepR workL reachE findI

theorem SlR.one1 {α : Type} {E : R α} {M : List Nat} {w : World} {b : Nat} {t : TypeId} {cs : List Value} {a : α} (h : At w b (.cells cs.toArray t (0, 0))) (hr : E.rel M w cs a) (hb : b ∉ M) : SlR E M w (.slice (some ⟨b, 0, none⟩) 1 1) [a] :=
  ⟨[R.vec hr], SlE.new (E := vecE E.k E.pos) (l := [R.vec hr]) (t := t) (by have e : (vecE E.k E.pos).flat [R.vec hr] = cs := (by show cs ++ [] = cs; exact List.append_nil _); rw [e]; exact h) rfl (Nat.le_refl _), .cons hr .nil, fun _ c hc hm => by simp [blkOf] at hc; subst hc; exact hb hm⟩
abbrev spT (id : ByteArray) : Tx := ⟨0, [⟨⟨id, 0⟩, 0, []⟩], [], 0⟩
theorem equal_true {v u : Value} {l m : List ByteArray} (w : World) (hl : SlE strE w v l) (hm : SlE strE w u m) (he : l = m) (hn : l.length ≤ 100000000) : K.Spec Tryz.prog F.slices_Equal_L_string_string [v, u] w fun r w' => r = .bool true ∧ Ext w w' :=
  spec_mono (equal_spec w hl hm hn) fun r w' ⟨h1, h2⟩ => ⟨by rw [h1, decide_eq_true he], h2⟩
abbrev zW : Small := ⟨[200], 0, 0, 0, 0, 0⟩
end Go.Proofs.YteggaepppahefaaGreat
end
