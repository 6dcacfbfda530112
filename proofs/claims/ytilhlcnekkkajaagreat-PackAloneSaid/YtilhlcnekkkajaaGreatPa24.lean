/- Contracts: slices of texts: equal, found, joined, struck. Contracts: adding to a graph. -/
import Derived.Shelf.SlicesE.DeleteFunc
import Derived.Test.YtilhlcnekkkajaaGreatPa23
set_option linter.unusedVariables false
set_option linter.unusedSimpArgs false
section
namespace Go.Proofs
open Go.Shelf Go.RowKit Go.Lib Go.Sort
variable {P : Program} {ρ : Ren} {α : Type} [Inhabited α]
set_option maxHeartbeats 2000000 in
set_option maxRecDepth 100000 in
/-- Of no element nothing is struck. -/
theorem YtilhlcnekkkajaaGreat.del_empty (L : SlLaysH.n10 P ρ) (a : Option Addr) (c : Nat) (fv : Value) (w : World) : Calls P (ρ.f 10) #[.slice a 0 c, fv] w fun e w' => e = .returned (.slice a 0 c) ∧ w' = w := by
  have mixed := L.mixed; have t0 := L.t0; have a0 := L.a0; have z0 := L.z0; have v0 := L.v0; have t3 := L.t3; have a3 := L.a3; have z3 := L.z3; have v3 := L.v3; have t4 := L.t4; have a4 := L.a4; have z4 := L.z4; have v4 := L.v4; have t22 := L.t22; have a22 := L.a22; have z22 := L.z22; have v22 := L.v22; have a23 := L.a23; have z23 := L.z23; have t25 := L.t25; have a25 := L.a25; have z25 := L.z25; have v25 := L.v25
  have e6 : ∀ args w, (callFunc (ρ.f 6) args).run P w = .ok (.enter (ρ.f 6) args) w := L.f6.enters rfl
  have hIF := AnyE.slices_IndexFunc_empty (P := P) (ρ := ρ) { L with } a c fv w
  obtain ⟨_, _, FG⟩ := L.f10
  go_enter FG, SlBodyH.n10_ntmps ρ
  go_wp2_with (go_at_fn (ρ.f 6); refine hIF.mono ?_; rintro e w' ⟨rfl, rfl⟩)
  go_ret
  exact ⟨rfl, rfl⟩
end Go.Proofs
namespace Go.Proofs.YtilhlcnekkkajaaGreat
open Go Go.K
theorem info9 : ∃ i0, Tryz.prog.info? 9 = some i0 ∧ i0.zero = some (.string ⟨#[]⟩) ∧ i0.size = 1 ∧ i0.bytes = 16 := by
  have h : (Tryz.prog.info? 9).map (fun i => (i.zero, i.size, i.bytes)) = some (some (.string ⟨#[]⟩), 1, 16) := by kernel_rfl
  obtain ⟨i0, h1, h2⟩ := Option.map_eq_some_iff.1 h
  simp only [Prod.mk.injEq] at h2
  exact ⟨i0, h1, h2⟩
theorem grow_spec (n : Nat) (hn : n ≤ 100000000) (w : World) : K.Spec Tryz.prog F.slices_Grow_L_string_string [.slice none 0 0, .int .i64 (n : Nat)] w fun r w' => Own strE T.string w.heap.size w' r [] ∧ Ext w w' := by
  rcases Nat.eq_zero_or_pos n with h | h
  · subst h
    exact (Any8.slices_Grow_room Tryz.growS none 0 0 0 w (by omega) (by omega) (by omega) (by omega)).mono fun e w' ⟨he, hw⟩ => ⟨_, he, Own.nil _ _ _, hw ▸ Ext.refl _⟩
  · obtain ⟨i0, h1, h2, h3, h4⟩ := info9
    exact (Any8.slices_Grow_grow Tryz.growS i0 (.string ⟨#[]⟩) h1 h2 (by omega) none 0 0 n [] w (by omega) (by omega) (by rw [h4]; omega) (by omega) (by simp) (by simp) (by simp)).mono fun e w' ⟨he, hw⟩ => ⟨_, he, by
      have hg := grownCap_ge w (0 + n) 0 9
      have hc : grownCap w (0 + n) 0 (Tryz.growS_ren.t 25) = grownCap w (0 + n) 0 9 := rfl
      subst hw
      rw [hc]
      refine ⟨.inr ⟨w.heap.size, _, (Builtin.zeroCells (Value.string ⟨#[]⟩).cells (0 + n - 0) ++ Builtin.zeroCells (Value.string ⟨#[]⟩).cells (grownCap w (0 + n) 0 9 - (0 + n))).toList, rfl, Nat.le_refl _, ?_, ?_⟩, (Ext.drew w).trans (Ext.alloc _ _)⟩
      · have e : ∀ X Y : Array Value, (#[] : Array Value) ++ X ++ Y = (strE.flat [] ++ (X ++ Y).toList).toArray := fun X Y => by simp [Enc.flat]
        rw [show ([] : List Value).toArray = #[] from rfl, e]
        exact At.new w.drew _
      · have e : (Value.string ⟨#[]⟩).cells.size = 1 := rfl
        simp only [Enc.flat, List.flatMap_nil, List.nil_append, Array.length_toList, Array.size_append, size_zeroCells, e]
        show _ = _ * 1
        omega⟩
theorem modify_at {w : World} {b : Nat} {cs : Array Value} {t : TypeId} {f : Nat × Nat} (h : At w b (.cells cs t f)) (g : Array Value → Array Value) : At (Sort.mapBlock w b g) b (.cells (g cs) t f) := by
  unfold At at h ⊢
  simp [Sort.mapBlock, Array.getElem?_modify, h, Sort.onCells]
theorem mapBlock_chg (w : World) (b : Nat) (g : Array Value → Array Value) : Chg [b] w (Sort.mapBlock w b g) :=
  ⟨rfl, rfl, rfl, by simp [Sort.mapBlock], fun c _ hn => by
    show (w.heap.modify b _)[c]? = _
    rw [Array.getElem?_modify, if_neg (by simp at hn; omega)]⟩
theorem ahead_ext (w : World) (q : Nat) : Ext w (Sort.ahead w q) := ⟨rfl, rfl, rfl, Nat.le_refl _, fun _ _ _ => rfl⟩
theorem put_row (D l : List ByteArray) (junk : List Value) (h : D.length = l.length) : Sort.putCells Value.string 0 D.toArray (l.map Value.string ++ junk).toArray = (D.map Value.string ++ junk).toArray := by
  apply Array.ext
  · simp [Sort.putCells, h]
  · intro k h1 h2
    simp only [Sort.putCells, Array.getElem_mapIdx, List.getElem_toArray, Nat.zero_add, Nat.sub_zero, List.size_toArray]
    by_cases hk : k < D.length
    · rw [if_pos ⟨Nat.zero_le _, hk⟩, List.getElem_append_left (by simpa using hk)]
      simp [getElem!_pos, hk]
    · rw [if_neg (by omega), List.getElem_append_right (by simp; omega), List.getElem_append_right (by simp; omega)]
      simp [h]
theorem del_spec {g : FuncId} {capl : List Value} {v : Value} {l : List ByteArray} {B : Nat} (w : World) (p : ByteArray → Bool) (hb : hasBody Tryz.prog g = true) (ho : Own strE T.string B w v l) (hn : l.length ≤ 100000000)
    (hp : ∀ (W : World) (x : ByteArray), Chg (blkOf v) w W → K.Spec Tryz.prog g (Value.string x :: capl) W fun r w' => r = .bool (p x) ∧ w' = W) :
    K.Spec Tryz.prog F.slices_DeleteFunc_L_string_string [v, .func (.func g) #[] capl.toArray] w fun r w' => Own strE T.string B w' r (l.filter fun x => !p x) ∧ Chg (blkOf v) w w' ∧ ∀ b ∈ blkOf r, b ∈ blkOf v := by
  have ho0 := ho
  rcases ho with ⟨rfl, rfl⟩ | ⟨b, cap, junk, rfl, hB, hat, hlen⟩
  · exact (YtilhlcnekkkajaaGreat.del_empty Tryz.deleteFunc none 0 (.func (.func g) #[] capl.toArray) w).mono fun e w' ⟨he, hw⟩ => ⟨_, he, .inl ⟨rfl, by simp⟩, hw ▸ Chg.refl _ _, by simp⟩
  · have hcap : l.length ≤ cap := by
      rw [List.length_append, Enc.flat_length] at hlen
      have e : strE.k = 1 := rfl
      rw [e] at hlen; omega
    have hflat : ∀ m : List ByteArray, strE.flat m = m.map Value.string := fun m => by
      induction m with
      | nil => rfl
      | cons x m ih => simp only [Enc.flat, List.flatMap_cons, List.map_cons] at ih ⊢; rw [ih]; rfl
    rw [hflat] at hat hlen
    have hcall : ∀ (W : World) (x : ByteArray), Chg [b] w W → FnGives Tryz.prog g capl.toArray #[Value.string x] (.bool (p x)) W := fun W x hc => by
      unfold FnGives
      have := hp W x (by simpa [blkOf] using hc)
      have e : (#[Value.string x] ++ capl.toArray : Array Value) = (Value.string x :: capl).toArray := by simp
      rw [e]
      exact Calls.mono this fun e w' ⟨r, he, hr, hw⟩ => ⟨by rw [he, hr], 0, by rw [hw]; rfl⟩
    have hH : Sort.Holds Value.string w b 0 l.toArray := fun j hj => by
      have hj' : j < l.length := by simpa using hj
      have hat' : w.heap[b]? = some (.cells (l.map Value.string ++ junk).toArray T.string (0, 0)) := hat
      refine ⟨?_, ?_⟩
      · simp only [World.cell?, hat', Nat.zero_add]
        simp [hj', List.getElem?_append_left, getElem!_pos]
      · simp [World.frozen?, hat']
    have key := AnyE.slices_DeleteFunc Tryz.deleteFunc Value.string (fun _ => rfl) p g capl.toArray (fun args W => run_enter hb) ⟨#[]⟩ Tryz.zeroValue9 b 0 cap l.toArray w (fun W x hb => hcall W x (by
        exact ⟨hb.os, hb.tape, hb.output, hb.size, fun c hc _ => hb.block c hc⟩)) (fun n os dk x hd => hcall _ x ?_) hH (by simp; omega) (by simpa using hcap)
    · simp only [List.size_toArray] at key
      refine Calls.mono (show Calls Tryz.prog F.slices_DeleteFunc_L_string_string #[.slice (some ⟨b, 0, none⟩) l.length cap, .func (.func g) #[] capl.toArray] w _ from key) ?_
      rintro e w' ⟨he, q, rfl⟩
      have hfl : (l.filter fun x => !p x).length ≤ l.length := List.length_filter_le _ _
      have hm := modify_at (At.ext (ahead_ext w q) hat) (Sort.putCells Value.string 0 ((l.filter fun x => !p x) ++ List.replicate (l.length - (l.filter fun x => !p x).length) (⟨#[]⟩ : ByteArray)).toArray)
      rw [put_row _ _ _ (by simp; omega), List.map_append, List.append_assoc] at hm
      refine ⟨_, he, .inr ⟨b, cap, _, rfl, hB, by rw [hflat]; exact hm, ?_⟩, ?_, fun c hc => by simpa [blkOf] using hc⟩
      · rw [hflat]
        simp only [List.length_append, List.length_map, List.length_replicate] at hlen ⊢
        rw [← hlen]; omega
      · exact (Ext.chg (ahead_ext w q) (mapBlock_chg _ _ _)).mono (fun c hc => .inl (by simpa [blkOf] using hc))
    · have c1 : Chg [b] w (Sort.putRow Value.string (Sort.ahead w n) b 0 dk) := Ext.chg (ahead_ext w n) (mapBlock_chg _ _ _)
      refine Chg.ext c1 ⟨rfl, rfl, rfl, by simp only [sortWorld, Sort.grow, Array.size_append]; omega, fun c hc _ => ?_⟩
      show ((Sort.putRow Value.string (Sort.ahead w n) b 0 dk).heap ++ os)[c]? = _
      rw [Array.getElem?_append_left hc]
attribute [local irreducible] regK codeK retK KOp.wp K.Spec u32 leS vnS str zero32 sha2 encT idT

theorem take_eq {α : Type} {l m : List α} {i : Nat} (h : l.take i = m.take i) (h1 : i < l.length) (h2 : i < m.length) (e : l[i] = m[i]) : l.take (i + 1) = m.take (i + 1) := by
  rw [List.take_succ_eq_append_getElem h1, List.take_succ_eq_append_getElem h2, h, e]
theorem equal_spec {v u : Value} {l m : List ByteArray} (w : World) (hl : SlE strE w v l) (hm : SlE strE w u m) (hn : l.length ≤ 100000000) : K.Spec Tryz.prog F.slices_Equal_L_string_string [v, u] w fun r w' => r = .bool (decide (l = m)) ∧ Ext w w' := by
  refine s_slices_Equal_L_string_string rfl ?_
  unfold k_slices_Equal_L_string_string
  refine oy ?_
  repeat' (first|(first|refine go1 ?_|refine zg (fun _ _=>?_)|refine zi (fun _ _=>?_))|refine zL rfl (fun h => ?_) (fun h => ?_)|refine zN rfl (fun h => ?_) (fun h => ?_)|(refine st_len rfl hl ?_)|(refine st_len rfl hm ?_)|(refine c_loopV (fun (i : Nat) w' => Ext w w' ∧ i ≤ l.length ∧ l.take i = m.take i) (fun i => [(0, v), (1, u), (12, .int .i64 (l.length : Nat)), (13, .int .i64 i)]) (fun i => l.length - i) 0 ⟨rfl, rfl, rfl, rfl, trivial⟩ ⟨Ext.refl _, by omega, rfl⟩ ?_; rintro i ρ w1 ⟨x1, hi, hk⟩)|(refine st_elemE (d := some 18) rfl rfl (SlE.ext (w := w) (by exact fx) hl) rfl (by omega) (fun ad r1 => ?_))|(refine st_elemE (d := some 22) rfl rfl (SlE.ext (w := w) (by exact fx) hm) rfl (by omega) (fun ad r1 => ?_)))
  all_goals first
    | (refine x_ret rfl ⟨congrArg Value.bool (decide_eq_false fun e => ?_).symm, by exact fx⟩; subst e; first | exact h rfl | exact absurd rfl (by assumption))
    | exact ⟨i + 1, ⟨rfl, rfl, rfl, rfl, trivial⟩, ⟨by exact fx, by omega, take_eq hk (by omega) (by omega) (by first | assumption | (simp_all; done))⟩, by omega⟩
    | (refine x_ret rfl ⟨congrArg Value.bool (decide_eq_true ?_).symm, by exact fx⟩; rwa [List.take_of_length_le (by omega), List.take_of_length_le (by omega)] at hk)
    | trace_state
theorem indexS_spec {v : Value} {l : List ByteArray} (a : ByteArray) (w : World) (hs : SlE strE w v l) (hn : l.length ≤ 1000000000000) : K.Spec Tryz.prog F.slices_Index_L_string_string [v, .string a] w fun r w' => r = .int .i64 (idxOf (fun x => decide (a = x)) l) ∧ w' = w := by
  refine s_slices_Index_L_string_string rfl ?_
  unfold k_slices_Index_L_string_string
  refine oy ?_
  repeat (first|refine go ?_|refine zg (fun _ _=>?_)|refine zi (fun _ _=>?_))
  refine st_len rfl hs ?_
  repeat (first|refine go ?_|refine zg (fun _ _=>?_)|refine zi (fun _ _=>?_))
  refine c_loopV (fun (i : Nat) w' => w' = w ∧ i ≤ l.length ∧ ∀ j, j < i → ∀ h : j < l.length, a ≠ l[j]) (fun i => [(0, v), (1, .string a), (6, v), (7, .int .i64 (l.length : Nat)), (8, .int .i64 i)]) (fun i => l.length - i) 0 ⟨rfl, rfl, rfl, rfl, rfl, trivial⟩ ⟨rfl, by omega, by omega⟩ ?_
  rintro i ρ w1 ⟨rfl, hi, hk⟩
  repeat (first|refine go ?_|refine zg (fun _ _=>?_)|refine zi (fun _ _=>?_))
  refine zL rfl (fun h => ?_) (fun h => ?_)
  · have hil : i < l.length := by omega
    repeat (first|refine go ?_|refine zg (fun _ _=>?_)|refine zi (fun _ _=>?_))
    refine st_elemE rfl rfl hs rfl hil (fun ad r1 => ?_)
    repeat (first|refine go ?_|refine zg (fun _ _=>?_)|refine zi (fun _ _=>?_))
    refine zL rfl (fun h2 => ?_) (fun h2 => ?_)
    · repeat (first|refine go ?_|refine zg (fun _ _=>?_)|refine zi (fun _ _=>?_))
      exact x_ret rfl ⟨congrArg (Value.int .i64) (idxOf_hit hil (by simpa using h2) (fun j hj => by simpa using hk j hj (by omega))).symm, rfl⟩
    · repeat (first|refine go ?_|refine zg (fun _ _=>?_)|refine zi (fun _ _=>?_))
      refine ⟨i + 1, ⟨rfl, rfl, rfl, rfl, rfl, trivial⟩, ⟨rfl, by omega, fun j hj hl => ?_⟩, by omega⟩
      by_cases hji : j = i
      · subst hji; exact h2
      · exact hk j (by omega) hl
  · repeat (first|refine go ?_|refine zg (fun _ _=>?_)|refine zi (fun _ _=>?_))
    exact x_ret rfl ⟨congrArg (Value.int .i64) (idxOf_miss (fun j hj => by simpa using hk j (by omega) hj)).symm, rfl⟩
theorem containsS_spec {v : Value} {l : List ByteArray} (a : ByteArray) (w : World) (hs : SlE strE w v l) (hn : l.length ≤ 1000000000000) : K.Spec Tryz.prog F.slices_Contains_L_string_string [v, .string a] w fun r w' => r = .bool (l.any fun x => decide (a = x)) ∧ w' = w := by
  refine s_slices_Contains_L_string_string rfl ?_
  unfold k_slices_Contains_L_string_string
  refine oy ?_
  repeat (first|refine go ?_|refine zg (fun _ _=>?_)|refine zi (fun _ _=>?_))
  refine zC rfl (indexS_spec a _ hs hn) ?_
  rintro _ _ ⟨rfl, rfl⟩
  repeat (first|refine go ?_|refine zg (fun _ _=>?_)|refine zi (fun _ _=>?_))
  exact x_ret rfl ⟨congrArg Value.bool idxOf_any, rfl⟩
theorem OwnR.toOwn {α : Type} {F : Enc α} {ag : Bool} {t : TypeId} {B : Nat} {M : List Nat} {w : World} {v : Value} {l : List α} (h : OwnR (R.flat F ag) t B M w v l) : Own F t B w v l := by
  obtain ⟨css, h1, h2⟩ := h
  have hlen := h2.length
  have e : css = l.map F.vec := by
    clear h1 hlen
    induction h2 with
    | nil => rfl
    | cons hx _ ih => rw [ih, List.map_cons]; congr 1; exact Subtype.ext hx
  subst e
  rcases h1 with ⟨rfl, h⟩ | ⟨b, cap, junk, rfl, hB, hat, hl⟩
  · exact .inl ⟨rfl, List.map_eq_nil_iff.1 h⟩
  · refine .inr ⟨b, cap, junk, congrArg (fun n => Value.slice (some ⟨b, 0, none⟩) n cap) hlen, hB, ?_, ?_⟩
    · rw [← flat_vecs]; exact hat
    · rw [← flat_vecs]; exact hl
def cat2 (l1 l2 : List ByteArray) : Nat → List ByteArray
  | 0 => []
  | 1 => l1
  | _ => l1 ++ l2
theorem cat2_len (l1 l2 : List ByteArray) (i : Nat) : (cat2 l1 l2 i).length ≤ l1.length + l2.length := by
  match i with
  | 0 => simp [cat2]
  | 1 => simp [cat2]
  | _ + 2 => simp [cat2]
theorem lt2 {n : Nat} (h : (n : Int) < 2) : n = 0 ∨ n = 1 := by omega
theorem concat_spec {bq : Nat} {v1 v2 : Value} {l1 l2 : List ByteArray} (w : World) (h : At w bq (.cells [v1, v2].toArray T.L_string (0, 0))) (h1 : SlE strE w v1 l1) (h2 : SlE strE w v2 l2) (hn : l1.length + l2.length ≤ 100000000) : K.Spec Tryz.prog F.slices_Concat_L_string_string [.slice (some ⟨bq, 0, none⟩) 2 2] w fun r w' => Own strE T.string w.heap.size w' r (l1 ++ l2) ∧ Ext w w' := by
  have hr : Row w ⟨bq, 0, none⟩ [v1, v2] := Row.of_at h
  have hq := h.lt
  refine s_slices_Concat_L_string_string rfl ?_
  unfold k_slices_Concat_L_string_string
  refine oy ?_
  repeat' (first|(first|refine go1 ?_|refine zg (fun _ _=>?_)|refine zi (fun _ _=>?_))|refine zL rfl (fun h => ?_) (fun h => ?_)|(refine (lt2 (n := i) h).elim (fun e => ?_) (fun e => ?_) <;> subst e)|(refine (lt2 (n := j) h).elim (fun e => ?_) (fun e => ?_) <;> subst e)|(refine st_index rfl rfl (by omega) ?_)|(refine st_len rfl (SlE.ext (w := w) (by exact fx) h1) ?_)|(refine st_len rfl (SlE.ext (w := w) (by exact fx) h2) ?_)|(refine st_append (E := strE) (v := vo) (l2 := l1) rfl (ho4.ext (by exact fx)) (Ext.size (w := w) (by exact fx)) rfl rfl (SlE.cells (SlE.ext (w := w) (by exact fx) h1)) rfl rfl (by have := cat2_len l1 l2 0; omega) (fun v5 w5 ho5 c5 => ?_))|(refine st_append (E := strE) (v := vo) (l2 := l2) rfl (ho4.ext (by exact fx)) (Ext.size (w := w) (by exact fx)) rfl rfl (SlE.cells (SlE.ext (w := w) (by exact fx) h2)) rfl rfl (by have := cat2_len l1 l2 1; omega) (fun v6 w6 ho6 c6 => ?_))|(refine c_loopV (fun (i : Nat) w' => Ext w w' ∧ i ≤ 2) (fun i => [(0, .slice (some ⟨bq, 0, none⟩) 2 2), (3, .int .i64 ((cat2 l1 l2 i).length : Nat)), (9, .slice (some ⟨bq, 0, none⟩) 2 2), (10, .int .i64 2), (11, .int .i64 i)]) (fun i => 2 - i) 0 ⟨rfl, rfl, rfl, rfl, rfl, trivial⟩ ⟨Ext.refl _, by omega⟩ ?_; rintro i ρ w2 ⟨x2, hi⟩; have hcl := cat2_len l1 l2 i)|(refine zC rfl (grow_spec (cat2 l1 l2 i).length (by omega) _) ?_; rintro v3 w3 ⟨ho3, x3⟩)|(refine c_loopV (fun (p : Nat × Value) w' => Ext w w' ∧ p.1 ≤ 2 ∧ Own strE T.string w.heap.size w' p.2 (cat2 l1 l2 p.1)) (fun p => [(6, p.2), (25, .slice (some ⟨bq, 0, none⟩) 2 2), (26, .int .i64 2), (27, .int .i64 p.1)]) (fun p => 2 - p.1) (0, v3) ⟨rfl, rfl, rfl, rfl, trivial⟩ ⟨by exact fx, by simp, ho3.lower x2.size⟩ ?_; rintro ⟨j, vo⟩ ρ4 w4 ⟨x4, hj, ho4⟩; simp only at hj ho4; dsimp only))
  all_goals first
    | exact absurd (by assumption : _ < (0 : Int)) (by omega)
    | exact ⟨1, ⟨rfl, congrArg (Value.int .i64) (by show _ = ((l1.length : Nat) : Int); simp [cat2]), rfl, rfl, rfl, trivial⟩, ⟨by exact fx, by omega⟩, by omega⟩
    | exact ⟨2, ⟨rfl, congrArg (Value.int .i64) (by show _ = (((l1 ++ l2).length : Nat) : Int); simp [cat2]), rfl, rfl, rfl, trivial⟩, ⟨by exact fx, by omega⟩, by omega⟩
    | exact ⟨(1, v5), ⟨rfl, rfl, rfl, rfl, trivial⟩, ⟨(Ext.chg (w := w) (by exact fx) c5).mono (fun b hb => .inr (ho4.base b (by simpa using hb))), by simp, by simpa [cat2] using ho5⟩, by simp⟩
    | exact ⟨(2, v6), ⟨rfl, rfl, rfl, rfl, trivial⟩, ⟨(Ext.chg (w := w) (by exact fx) c6).mono (fun b hb => .inr (ho4.base b (by simpa using hb))), by simp, by simpa [cat2] using ho6⟩, by simp⟩
    | (obtain rfl : j = 2 := by omega
       exact x_ret rfl ⟨ho4, by exact fx⟩)
    | trace_state
end Go.Proofs.YtilhlcnekkkajaaGreat
end
section
namespace Go.Proofs.YtilhlcnekkkajaaGreat
open Go Go.K
attribute [local irreducible] regK codeK retK KOp.wp K.Spec u32 leS vnS str zero32 sha2 encT idT sizeT checkT grantB idN stepR workL reachE

theorem blkOf_nodup (v : Value) : (blkOf v).Nodup := by
  unfold blkOf
  split <;> simp
theorem addG_err {l : List Ent} {t : Tx} {fee : Int} (h : entErr t fee ≠ 0) : addG l t fee = (l, entErr t fee) := by
  unfold addG entErr at *
  by_cases h1 : checkT t ≠ 0
  · rw [if_pos h1, if_pos h1]
  · rw [if_neg h1] at *
    rw [if_neg h1]
    by_cases h2 : grantB t = true
    · rw [if_pos h2, if_pos h2]
    · rw [if_neg h2] at *
      rw [if_neg h2]
      by_cases h3 : (!goodB fee) = true
      · rw [if_pos h3, if_pos h3]
      · rw [if_neg h3] at h; exact absurd rfl h
theorem addG_ok {l : List Ent} {t : Tx} {fee : Int} (h : entErr t fee = 0) (hw : checkT t = 0 → grantB t = false → goodB fee = true → True) : addG l t fee = if l.any (fun x => decide (x.id = idT t)) then (l, 7) else if t.ins.any (fun i => l.any fun x => spends x i.p) then (l, 15) else (l ++ [⟨t, idT t, fee, (sizeT t : Nat)⟩], 0) := by
  unfold addG entErr at *
  by_cases h1 : checkT t ≠ 0
  · rw [if_pos h1] at h; exact absurd h h1
  · rw [if_neg h1] at *
    by_cases h2 : grantB t = true
    · rw [if_pos h2] at h; cases h
    · rw [if_neg h2] at *
      by_cases h3 : (!goodB fee) = true
      · rw [if_pos h3] at h; cases h
      · rw [if_neg h3]
set_option maxHeartbeats 2000000 in
theorem gadd_own {B g : Nat} {M N : List Nat} {l : List Ent} {cs : List Value} {t : Tx} (fee : Int) (w : World) (hG : Gr w B g M l) (ht : txR.rel N w cs t) (hs : t.Sm) (hf : is64 fee) (hN : ∀ b ∈ N, b < w.heap.size) (hMN : ∀ b ∈ M, b ∈ N) (hn : l.length ≤ 1000) : K.Spec Tryz.prog F.graph_Graph_Add [.pointer (some ⟨g, 0, none⟩), .agg cs.toArray, .int .i64 fee] w fun r w' =>
    ∃ M', r = .int .i64 (addG l t fee).2 ∧ Gr w' B g M' (addG l t fee).1 ∧ Chg M w w' ∧ (∀ b ∈ M', b ∈ M ∨ w.heap.size ≤ b) ∧ ((addG l t fee).2 ≠ 0 → Ext w w') := by
  have hG0 := hG
  obtain ⟨b1, vo, b2, m, sp, hP, rfl⟩ := hG
  have rg : Row w ⟨g, 0, none⟩ [.map (some b1), vo, .map (some b2)] := Row.of_at hP.at_
  have hq1 := hP.ents
  have hq2 := hP.pts
  have ht0 := ht
  obtain ⟨iv, ov, rfl, h1, h2, h3⟩ := ht
  by_cases he0 : entErr t fee = 0
  · refine s_graph_Graph_Add rfl ?_
    unfold k_graph_Graph_Add
    refine oy ?_
    repeat' (first|(first|refine go1 ?_|refine zg (fun _ _=>?_)|refine zi (fun _ _=>?_))|(refine zL rfl (fun h => absurd h (by decide)) (fun h => ?_))|(refine zD rfl rfl (fun bp wp xp ap (rp : Row wp ⟨bp, 0, none⟩ (txCs t iv ov)) hp0=>?_))|(refine zC rfl (entry_spec (M := N) (cs := txCs t iv ov) (t := t) fee _ (by exact fx) hs hf (fun b hb => Nat.lt_of_lt_of_le (hN b hb) (Ext.size (by exact fx)))) ?_; rintro _ w5 ⟨ds, rfl, d1, d2, d3, x5⟩; obtain ⟨hok, he5⟩ := d3 he0; rw [he0]; clear d3; generalize hxe : (⟨t, idT t, fee, (sizeT t : Nat)⟩ : Ent) = x at hok he5 d1 d2 ⊢; have htx : x.tx = t := (by rw [← hxe]); have hid : x.id = idT t := (by rw [← hxe]); have he5' := he5; obtain ⟨iv5, ov5, rfl, o1, o2, o3⟩ := he5)|(refine zE (d' := 7) (fun _=>rfl) rfl rfl d2 (fun b7 w7 x7 a7 (r7 : Row w7 ⟨b7, 0, none⟩ (entCs x iv5 ov5)) hb7=>?_))|(refine st_lookupR (d := some 35) (KE := sK) (F := entR) (M := mutG g b1 b2 vo) (k := x.id) rfl rfl (by exact fx) rfl rfl (fun y cs hy hr => ?_) (fun hno => ?_))|(refine zH (d := some 9) (fun b9 w9 x9 a9 hb9 => ?_); have s9 : w.heap.size ≤ b9 := Nat.le_trans (Ext.size (w := w) (by exact fx)) hb9; have s79 : w7.heap.size ≤ b9 := Nat.le_trans (Ext.size (w := w7) (by exact fx)) hb9)|(obtain ⟨iv9, ov9, rfl, q1, q2, q3⟩ := hr; have i1 := q1.one; have i2 := q2.one; refine st_setN (w0 := w) (vs := entCs y iv9 ov9) (by exact fx) s9 (by focus (repeat (first | assumption | (apply At.ext; assumption)))) rfl rfl rfl rfl (by simp [entCs, i1, i2]; exact ⟨rfl, rfl, rfl, rfl, rfl⟩) (fun w10 x10 c10 a10 r10 => ?_); clear q1 q2)|(refine st_setN (w0 := w) (vs := zEnt) (by exact fx) s9 (by focus (repeat (first | assumption | (apply At.ext; assumption)))) rfl rfl rfl rfl rfl (fun w10 x10 c10 a10 r10 => ?_))|(refine zG (E := inR) (M := N) (l := t.ins) rfl (SlR.ext h1 (by exact fx)) ?_))
    · rw [hP.inv.ent] at hy
      have hany : l.any (fun x => decide (x.id = idT t)) = true := by
        rw [List.any_eq_true]
        exact ⟨y, List.mem_of_find?_eq_some hy, by have := List.find?_some hy; rw [← hid]; exact this⟩
      rw [addG_ok he0 (fun _ _ _ => trivial), if_pos hany]
      exact x_ret rfl ⟨_, rfl, hG0.ext x10, x10.mono (by simp), fun b hb => .inl hb, fun _ => x10⟩
    · have l7 := a7.lt
      have lp := ap.lt
      have s5 := x5.size
      have s7 := x7.size
      have sp := xp.size
      have ap0 := At.chg c10 (At.ext (show Ext wp w9 by exact fx) ap) (by simp; omega)
      have a70 := At.chg c10 (At.ext (show Ext w7 w9 by exact fx) a7) (by simp; omega)
      have x59 : Ext w5 w9 := by exact fx
      have k1 := o1.lt
      have k2 := o2.lt
      have e10 : entR.rel N w10 (entCs x iv5 ov5) x := by
        have n1 : b9 ∉ blkOf iv5 := fun h => by have := k1 _ h; omega
        have n2 : b9 ∉ blkOf ov5 := fun h => by have := k2 _ h; omega
        have p1 := (o1.step (M' := b9 :: N) x59 (by simp) (fun b hb => by rcases List.mem_cons.1 hb with h | h; (right; omega); exact .inl h)).step (M' := N) c10 (by intro y hy; simp at hy; subst hy; exact ⟨n1, .inl (by simp)⟩) (fun _ h => .inl (by simp [h]))
        have p2 := (o2.step (M' := b9 :: N) x59 (by simp) (fun b hb => by rcases List.mem_cons.1 hb with h | h; (right; omega); exact .inl h)).step (M' := N) c10 (by intro y hy; simp at hy; subst hy; exact ⟨n2, .inl (by simp)⟩) (fun _ h => .inl (by simp [h]))
        exact entO.rel (B := w.heap.size) ⟨iv5, ov5, rfl, p1.lower sp, p2.lower sp, o3⟩ hN
      have rp0 : Row w10 ⟨bp, 0, none⟩ (txCs t iv ov) := Row.of_at ap0
      have r70 : Row w10 ⟨b7, 0, none⟩ (entCs x iv5 ov5) := Row.of_at a70
      have hb7 : w.heap.size ≤ b7 := by omega
      have hbp := hp0
      have hl1 := Gr.lt hG0
      have hins := hs.ins
      clear ‹Ext w7 _›
      clear x59 k1 k2 o1 o2 he5' c10 a10 r10 x9 a9 hb9 s9 s79 x7 a7 r7 x5 xp ap rp l7 lp s5 s7 sp hp0
      repeat' (first|(first|refine go1 ?_|refine zg (fun _ _=>?_)|refine zi (fun _ _=>?_))|(refine zL rfl (fun h => ?_) (fun h => ?_))|(refine zG (E := inR) (M := N) (l := t.ins) rfl (SlR.ext h1 (by exact fx)) ?_)|(refine c_loopV (fun (i : Nat) w' => Ext w10 w' ∧ i ≤ t.ins.length ∧ ∀ j (hj : j < t.ins.length), j < i → aget sp t.ins[j].p = none) (fun i => [(0, .pointer (some ⟨g, 0, none⟩)), (4, .pointer (some ⟨bp, 0, none⟩)), (7, .pointer (some ⟨b7, 0, none⟩)), (40, iv), (41, .int .i64 (t.ins.length : Nat)), (42, .int .i64 i)]) (fun i => t.ins.length - i) 0 ⟨rfl, rfl, rfl, rfl, rfl, rfl, trivial⟩ ⟨by exact fx, by simp, fun j hj h => by omega⟩ ?_; rintro i ρ w3 ⟨x3, hi, hfr⟩)|(refine st_elemR (d := some 44) (E := inR) (M := N) rfl rfl (n := i) (l := t.ins) (SlR.ext h1 (x10.trans x3)) rfl (by omega) (fun ad cs r4 he => ?_); obtain ⟨wv, rfl, hw, hp5, hp6⟩ := he; obtain ⟨bs1, cp1, rfl⟩ := hw.form; have hil : i < t.ins.length := (by omega))|(refine zE (d' := 12) (fun _=>rfl) rfl rfl rfl (fun b8 w8 x8 a8 (r8 : Row w8 ⟨b8, 0, none⟩ (inCs t.ins[i] (.slice bs1 t.ins[i].wit.length cp1))) hb8=>?_))|(refine st_lookupOk (d := some 53) (E := ptK) (fv := Value.string) (k := t.ins[i].p) rfl rfl (MapE.ext (w := w) (by exact fx) hq2) rfl rfl (fun y hy => ?_) (fun hn2 => ?_)))
      · rw [hP.inv.spt, Option.map_eq_some_iff] at hy
        obtain ⟨z, hz, -⟩ := hy
        have hany : ¬ l.any (fun x => decide (x.id = idT t)) = true := by
          rw [hP.inv.ent] at hno
          rw [List.any_eq_true]
          rintro ⟨y, h1, h2⟩
          exact (List.find?_eq_none.1 hno y h1) (by rw [hid]; exact h2)
        have hany2 : t.ins.any (fun i => l.any fun x => spends x i.p) = true := List.any_eq_true.2 ⟨_, List.getElem_mem hil, List.any_eq_true.2 ⟨z, List.mem_of_find?_eq_some hz, (by have := List.find?_some hz; exact this)⟩⟩
        rw [addG_ok he0 (fun _ _ _ => trivial), if_neg hany, if_pos hany2]
        have xx : Ext w _ := Ext.trans (x10.trans (x3.trans x8)) (by assumption)
        exact x_ret rfl ⟨_, rfl, hG0.ext xx, xx.mono (by simp), fun b hb => .inl hb, fun _ => xx⟩
      · exact ⟨i + 1, ⟨rfl, rfl, rfl, rfl, rfl, rfl, trivial⟩, ⟨by exact fx, by omega, fun j hj h => by
          rcases Nat.lt_succ_iff_lt_or_eq.1 h with h5 | rfl
          · exact hfr j hj h5
          · exact hn2⟩, by omega⟩
      · rename_i wB xB
        have hfree : ∀ j (hj : j < t.ins.length), aget sp t.ins[j].p = none := fun j hj => hfr j hj (by omega)
        have x0B := x3.trans xB
        have xwB : Ext w wB := x10.trans x0B
        have eB : entR.rel (mutG g b1 b2 vo) wB (entCs x iv5 ov5) x := entR.step e10 x0B (by simp) (fun b hb => .inl (hMN b hb))
        have apB := ap0.ext x0B
        have a7B := a70.ext x0B
        have agB := hP.at_.ext xwB
        have mB := hq1.ext xwB
        have pB := hq2.ext xwB
        have oB := hP.ord.ext xwB
        have sB := xwB.size
        have nd := hP.nd
        simp only [List.nodup_cons, List.mem_cons, not_or] at nd
        obtain ⟨⟨n1, n2, n3⟩, ⟨n4, n5⟩, n6, n7⟩ := nd
        have l1 : b1 < w.heap.size := hl1 _ (by simp)
        have l2 : b2 < w.heap.size := hl1 _ (by simp)
        have lg : g < w.heap.size := hl1 _ (by simp)
        have lo : ∀ b ∈ blkOf vo, b < w.heap.size := fun b hb => hl1 b (by simp [hb])
        clear x3 xB x0B hi x10 ap0 a70 rp0 r70 e10 rg hfr h
        refine st_mapUpdateR (KE := sK) (F := entR) (M := mutG g b1 b2 vo) (k := x.id) (v := x) (cs := entCs x iv5 ov5) rfl rfl rfl mB eB (by simp) rfl rfl (fun w11 c11 m11 => ?_)
        have ag11 := agB.chg c11 (by simp; omega)
        have a711 := a7B.chg c11 (by simp; omega)
        have ap11 := apB.chg c11 (by simp; omega)
        have p11 := pB.chg c11 (by simp; omega)
        have o11 := oB.chg c11 (fun b hb h => by simp at h; subst h; exact n5 hb)
        have rg11 : Row w11 ⟨g, 0, none⟩ [.map (some b1), vo, .map (some b2)] := Row.of_at ag11
        have r711 : Row w11 ⟨b7, 0, none⟩ (entCs x iv5 ov5) := Row.of_at a711
        have C11 : Chg (mutG g b1 b2 vo) w w11 := (xwB.chg c11).mono (fun b hb => by simp at hb; subst hb; exact .inl (by simp))
        have s11 := c11.size
        have sB11 : w.heap.size ≤ w11.heap.size := Nat.le_trans sB s11
        have hBw : B ≤ w.heap.size := (by have := hP.lo; omega)
        clear agB a7B apB pB oB mB eB c11 xwB
        repeat' (first|(first|refine go1 ?_|refine zg (fun _ _=>?_)|refine zi (fun _ _=>?_))|refine st_both ?_ ?_|(refine zI (d := some 72) (cs := [.string x.id]) rfl (fun bz wz xz az hbz => ?_)))
        all_goals
          refine st_appendX (d := some 73) (E := strE) (B := B) (l := l.map (fun x : Ent => x.id)) (l2 := [x.id]) (n := 1) (new := [.string x.id]) rfl (o11.ext (by exact fx)) (Nat.le_trans (Nat.le_trans hBw sB11) (Ext.size (w := w11) (by exact fx))) rfl rfl (sl_new (by focus (repeat (first | assumption | (apply At.ext; assumption)))) rfl) rfl rfl (by simp only [List.length_map, List.length_cons, List.length_nil]; omega) (fun v13 w13 o13 _ c13 hb13 => ?_)
          have c1 : Chg (blkOf vo) w11 w13 := Ext.chg (by exact fx) c13
          have hb1 : ∀ b ∈ blkOf v13, b ∈ blkOf vo ∨ w11.heap.size ≤ b := fun b hb => (hb13 b hb).imp id (Nat.le_trans (Ext.size (by exact fx)))
          clear c13 hb13 az hbz xz
          clear ‹Ext w11 _›
          have s13 := c1.size
          have ag13 := ag11.chg c1 n3
          have ap13 := ap11.chg c1 (fun h => by have := lo _ h; omega)
          have a713 := a711.chg c1 (fun h => by have := lo _ h; omega)
          have p13 := p11.chg c1 n6
          have rg13 : Row w13 ⟨g, 0, none⟩ [.map (some b1), vo, .map (some b2)] := Row.of_at ag13
          repeat (first|refine go1 ?_|refine zg (fun _ _=>?_)|refine zi (fun _ _=>?_))
          have hv1 : v13.oneCell' = true := by obtain ⟨_, _, e⟩ := o13.sl.form; rw [e]; rfl
          refine st_store (b := g) (o := 1) (v := v13) rfl rfl hv1 ag13 (by simp) (fun w14 c14 ag14 => ?_)
          have ag14 : At w14 g (.cells [.map (some b1), v13, .map (some b2)].toArray T.graph_Graph (0, 0)) := ag14
          have rg14 : Row w14 ⟨g, 0, none⟩ [.map (some b1), v13, .map (some b2)] := Row.of_at ag14
          have a714 := a713.chg c14 (by simp; omega)
          have ap14 := ap13.chg c14 (by simp; omega)
          have r714 : Row w14 ⟨b7, 0, none⟩ (entCs x iv5 ov5) := Row.of_at a714
          have rp14 : Row w14 ⟨bp, 0, none⟩ (txCs t iv ov) := Row.of_at ap14
          have hv3 : ∀ b, b < w.heap.size → b ∉ blkOf vo → b ∉ blkOf v13 := fun b hb hn h => by
            rcases hb1 b h with h1 | h1
            · exact hn h1
            · omega
          have o14 := o13.chg c14 (fun b hb h => by simp at h; subst h; exact hv3 _ lg n3 hb)
          have p14 := p13.chg c14 (by simp; omega)
          have hM' : ∀ b ∈ mutG g b1 b2 v13, b ∈ mutG g b1 b2 vo ∨ w11.heap.size ≤ b := fun b hb => by
            simp only [List.mem_cons] at hb ⊢
            rcases hb with rfl | rfl | rfl | hb
            · exact .inl (.inl rfl)
            · exact .inl (.inr (.inl rfl))
            · exact .inl (.inr (.inr (.inl rfl)))
            · exact (hb1 b hb).imp (fun h => .inr (.inr (.inr h))) id
          have m13 : MapR sK entR (mutG g b1 b2 v13) w13 b1 (aset m x.id x) := m11.step c1 n5 (fun b hb => .inl (by simp [hb])) hM'
          have m14 := m13.step (M' := mutG g b1 b2 v13) c14 (by simp; omega) (fun b hb => by simp at hb; subst hb; exact .inl (by simp)) (fun _ h => .inl h)
          have C14 : Chg (mutG g b1 b2 vo) w w14 := ((C11.trans c1).trans c14).mono (fun b hb => by simp at hb ⊢; grind)
          have s14 := c14.size
          have hi14 : SlR inR N w14 iv t.ins := h1.step C14 (fun b hb => .inl (hMN b hb)) (fun _ h => .inl h)
          clear ag13 rg13 a713 ap13 o13 p13 m13 c14 c1 m11 ag11 a711 ap11 p11 o11 rg11 r711 C11
          clear ap14
          repeat' (first|(first|refine go1 ?_|refine zg (fun _ _=>?_)|refine zi (fun _ _=>?_))|(refine zL rfl (fun h => ?_) (fun h => ?_))|(refine zG (E := inR) (M := N) (l := t.ins) rfl (SlR.ext hi14 (by exact fx)) ?_)|(refine c_loopV (fun (i : Nat) w' => Chg [b2] w14 w' ∧ i ≤ t.ins.length ∧ MapE ptK Value.string w' b2 (putPts sp (t.ins.take i) x.id)) (fun i => [(0, .pointer (some ⟨g, 0, none⟩)), (7, .pointer (some ⟨b7, 0, none⟩)), (77, iv), (78, .int .i64 (t.ins.length : Nat)), (79, .int .i64 i)]) (fun i => t.ins.length - i) 0 ⟨rfl, rfl, rfl, rfl, rfl, trivial⟩ ⟨(show Ext w14 _ by exact fx).mono (by simp), by simp, MapE.ext (by exact fx) p14⟩ ?_; rintro i ρ w3 ⟨x3, hi, hmp⟩))
          · have hi3 : SlR inR N w3 iv t.ins := hi14.step x3 (fun b hb => .inl (hMN b (by simp at hb; simp [hb]))) (fun _ h => .inl h)
            have rg3 : Row w3 ⟨g, 0, none⟩ [.map (some b1), v13, .map (some b2)] := Row.of_at (ag14.chg x3 (by simp; omega))
            have r73 : Row w3 ⟨b7, 0, none⟩ (entCs x iv5 ov5) := Row.of_at (a714.chg x3 (by simp; omega))
            clear r714 rp14 rg14
            repeat' (first|(first|refine go1 ?_|refine zg (fun _ _=>?_)|refine zi (fun _ _=>?_))|(refine st_elemR (d := some 81) (E := inR) (M := N) rfl rfl (n := i) (l := t.ins) (SlR.ext hi3 (by exact fx)) rfl (by omega) (fun ad cs r4 he => ?_); obtain ⟨wv, rfl, hw, hp5, hp6⟩ := he; obtain ⟨bs1, cp1, rfl⟩ := hw.form; have hil : i < t.ins.length := (by omega))|(refine zE (d' := 16) (fun _=>rfl) rfl rfl rfl (fun b8 w8 x8 a8 (r8 : Row w8 ⟨b8, 0, none⟩ (inCs t.ins[i] (.slice bs1 t.ins[i].wit.length cp1))) hb8=>?_))|(refine st_mapUpdate (E := ptK) (fv := Value.string) (k := t.ins[i].p) (v := x.id) rfl rfl rfl (MapE.ext (w := w3) (by exact fx) hmp) rfl rfl (fun w5 c5 m5 => ?_); have x35 : Chg [b2] w3 w5 := Ext.chg (by exact fx) c5))
            exact ⟨i + 1, ⟨rfl, rfl, rfl, rfl, rfl, trivial⟩, ⟨(x3.trans x35).mono (by simp), by omega, by rw [putPts_take hil]; exact m5⟩, by omega⟩
          · have ei : i = t.ins.length := by omega
            subst ei
            rw [List.take_of_length_le (Nat.le_refl _)] at hmp
            have hany : ¬ l.any (fun x => decide (x.id = idT t)) = true := by
              rw [hP.inv.ent] at hno
              rw [List.any_eq_true]
              rintro ⟨y, h1, h2⟩
              exact (List.find?_eq_none.1 hno y h1) (by rw [hid]; exact h2)
            have hnone : ∀ i ∈ t.ins, ∀ y ∈ l, spends y i.p = false := fun i hi y hy => by
              obtain ⟨j, hj, rfl⟩ := List.getElem_of_mem hi
              have h5 := hfree j hj
              rw [hP.inv.spt, Option.map_eq_none_iff] at h5
              have h6 := List.find?_eq_none.1 h5 y hy
              simpa using h6
            have hany2 : ¬ t.ins.any (fun i => l.any fun x => spends x i.p) = true := by
              rw [List.any_eq_true]
              rintro ⟨i, hi, h⟩
              obtain ⟨y, hy, h⟩ := List.any_eq_true.1 h
              rw [hnone i hi y hy] at h; cases h
            rw [addG_ok he0 (fun _ _ _ => trivial), if_neg hany, if_neg hany2, hxe]
            have hno' : ∀ y ∈ l, y.id ≠ x.id := fun y hy e => hany (List.any_eq_true.2 ⟨y, hy, decide_eq_true (by rw [e, hid])⟩)
            have hinv : GI (aset m x.id x) (putPts sp x.tx.ins x.id) (l ++ [x]) := GI.add hP.inv hok hno' (fun y hy p hp => by
              unfold spends at hp
              obtain ⟨i, hi, h⟩ := List.any_eq_true.1 hp
              rw [htx] at hi
              rw [← of_decide_eq_true h]
              exact hnone i hi y hy)
            rw [htx] at hinv
            have nb2 : b2 ∉ blkOf v13 := hv3 _ l2 n6
            have nb1 : b1 ∉ blkOf v13 := hv3 _ l1 n5
            have nbg : g ∉ blkOf v13 := hv3 _ lg n3
            have n13 : (blkOf v13).Nodup := blkOf_nodup v13
            have hC : Chg (mutG g b1 b2 vo) w w3 := (C14.trans x3).mono (fun b hb => by simp at hb ⊢; grind)
            have e13 : (l ++ [x]).map (·.id) = l.map (·.id) ++ [x.id] := by simp
            refine x_ret rfl ⟨_, rfl, ⟨b1, v13, b2, aset m x.id x, putPts sp t.ins x.id, ⟨ag14.chg x3 (by simp; omega), m14.step x3 (by simp; omega) (fun b hb => .inl (by simp at hb; simp [hb])) (fun _ h => .inl h), hmp, ?_, hinv, ?_, hP.lo⟩, rfl⟩, hC, fun b hb => (hM' b hb).imp id (Nat.le_trans sB11), fun h => absurd rfl h⟩
            · rw [e13]; exact o14.chg x3 (fun b hb h => by simp at h; subst h; exact nb2 hb)
            · simp only [List.nodup_cons, List.mem_cons, not_or]
              exact ⟨⟨n1, n2, nbg⟩, ⟨n4, nb1⟩, nb2, n13⟩
  · refine s_graph_Graph_Add rfl ?_
    unfold k_graph_Graph_Add
    refine oy ?_
    repeat' (first|(first|refine go1 ?_|refine zg (fun _ _=>?_)|refine zi (fun _ _=>?_))|(refine zL rfl (fun h => ?_) (fun h => absurd h (by simpa using he0)))|(refine zN rfl (fun h => ?_) (fun h => absurd h he0))|(refine zD rfl rfl (fun bp wp xp ap (rp : Row wp ⟨bp, 0, none⟩ (txCs t iv ov)) hp0=>?_))|(refine zC rfl (entry_spec (M := N) (cs := txCs t iv ov) (t := t) fee _ (by exact fx) hs hf (fun b hb => Nat.lt_of_lt_of_le (hN b hb) (Ext.size (by exact fx)))) ?_; rintro _ w5 ⟨ds, rfl, d1, d2, -, x5⟩)|(refine zE (d' := 7) (fun _=>rfl) d1 rfl d2 (fun b7 w7 x7 a7 r7 hb7=>?_)))
    have xx : Ext w w7 := by exact fx
    rw [addG_err he0]
    exact x_ret rfl ⟨_, rfl, hG0.ext xx, xx.mono (by simp), fun b hb => .inl hb, fun _ => xx⟩
theorem gadd_spec {B g : Nat} {M N : List Nat} {l : List Ent} {cs : List Value} {t : Tx} (fee : Int) (w : World) (hG : Gr w B g M l) (ht : txR.rel N w cs t) (hs : t.Sm) (hf : is64 fee) (hN : ∀ b ∈ N, b < w.heap.size) (hMN : ∀ b ∈ M, b ∈ N) (hn : l.length ≤ 1000) : K.Spec Tryz.prog F.graph_Graph_Add [.pointer (some ⟨g, 0, none⟩), .agg cs.toArray, .int .i64 fee] w fun r w' =>
    ∃ M', r = .int .i64 (addG l t fee).2 ∧ Gr w' B g M' (addG l t fee).1 ∧ Chg M w w' ∧ ∀ b ∈ M', b ∈ M ∨ w.heap.size ≤ b := 
  spec_mono (gadd_own fee w hG ht hs hf hN hMN hn) fun _ _ ⟨M', h1, h2, h3, h4, _⟩ => ⟨M', h1, h2, h3, h4⟩
end Go.Proofs.YtilhlcnekkkajaaGreat
end
