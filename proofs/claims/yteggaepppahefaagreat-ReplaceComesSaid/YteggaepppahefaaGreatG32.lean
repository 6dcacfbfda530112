/- Contracts: slices of texts: equal, found, joined, struck. -/
import Derived.Shelf.SlicesE.DeleteFunc
import Derived.Test.YteggaepppahefaaGreatG31
set_option linter.unusedVariables false
set_option linter.unusedSimpArgs false
section
namespace Go.Proofs
open Go.Shelf Go.RowKit Go.Lib Go.Sort
variable {P : Program} {ρ : Ren} {α : Type} [Inhabited α]
set_option maxHeartbeats 2000000 in
set_option maxRecDepth 100000 in
/-- Of no element nothing is struck. -/
theorem YteggaepppahefaaGreat.del_empty (L : SlLaysH.n10 P ρ) (a : Option Addr) (c : Nat) (fv : Value) (w : World) : Calls P (ρ.f 10) #[.slice a 0 c, fv] w fun e w' => e = .returned (.slice a 0 c) ∧ w' = w := by
  have mixed := L.mixed; have t0 := L.t0; have a0 := L.a0; have z0 := L.z0; have v0 := L.v0; have t3 := L.t3; have a3 := L.a3; have z3 := L.z3; have v3 := L.v3; have t4 := L.t4; have a4 := L.a4; have z4 := L.z4; have v4 := L.v4; have t22 := L.t22; have a22 := L.a22; have z22 := L.z22; have v22 := L.v22; have a23 := L.a23; have z23 := L.z23; have t25 := L.t25; have a25 := L.a25; have z25 := L.z25; have v25 := L.v25
  have e6 : ∀ args w, (callFunc (ρ.f 6) args).run P w = .ok (.enter (ρ.f 6) args) w := L.f6.enters rfl
  have hIF := AnyE.slices_IndexFunc_empty (P := P) (ρ := ρ) { L with } a c fv w
  obtain ⟨_, _, FG⟩ := L.f10
  go_enter FG, SlBodyH.n10_ntmps ρ
  go_wp2_with (go_at_fn (ρ.f 6); refine hIF.mono ?_; rintro e w' ⟨rfl, rfl⟩)
  go_ret
  exact ⟨rfl, rfl⟩
end Go.Proofs
namespace Go.Proofs.YteggaepppahefaaGreat
open Go Go.K
theorem info9 : ∃ i0, Tryz.prog.info? 9 = some i0 ∧ i0.zero = some (.string ⟨#[]⟩) ∧ i0.size = 1 ∧ i0.bytes = 16 := by
  have h : (Tryz.prog.info? 9).map (fun i => (i.zero, i.size, i.bytes)) = some (some (.string ⟨#[]⟩), 1, 16) := by kernel_rfl
  obtain ⟨i0, h1, h2⟩ := Option.map_eq_some_iff.1 h
  simp only [Prod.mk.injEq] at h2
  exact ⟨i0, h1, h2⟩
theorem grow_spec (n : Nat) (hn : n ≤ 100000000) (w : World) : K.Spec Tryz.prog F.slices_Grow_L_string_string [.slice none 0 0, .int .i64 (n : Nat)] w fun r w' => Own strE T.string w.heap.size w' r [] ∧ Ext w w' := by
  rcases Nat.eq_zero_or_pos n with h | h
  · subst h
    exact (Any8.slices_Grow_room Tryz.growS none 0 0 0 w (by omega) (by omega) (by omega) (by omega)).mono fun e w' ⟨he, hw⟩ => ⟨_, he, Own.nil _ _ _, hw ▸ Ext.refl _⟩
  · obtain ⟨i0, h1, h2, h3, h4⟩ := info9
    exact (Any8.slices_Grow_grow Tryz.growS i0 (.string ⟨#[]⟩) h1 h2 (by omega) none 0 0 n [] w (by omega) (by omega) (by rw [h4]; omega) (by omega) (by simp) (by simp) (by simp)).mono fun e w' ⟨he, hw⟩ => ⟨_, he, by
      have hg := grownCap_ge w (0 + n) 0 9
      have hc : grownCap w (0 + n) 0 (Tryz.growS_ren.t 25) = grownCap w (0 + n) 0 9 := rfl
      subst hw
      rw [hc]
      refine ⟨.inr ⟨w.heap.size, _, (Builtin.zeroCells (Value.string ⟨#[]⟩).cells (0 + n - 0) ++ Builtin.zeroCells (Value.string ⟨#[]⟩).cells (grownCap w (0 + n) 0 9 - (0 + n))).toList, rfl, Nat.le_refl _, ?_, ?_⟩, (Ext.drew w).trans (Ext.alloc _ _)⟩
      · have e : ∀ X Y : Array Value, (#[] : Array Value) ++ X ++ Y = (strE.flat [] ++ (X ++ Y).toList).toArray := fun X Y => by simp [Enc.flat]
        rw [show ([] : List Value).toArray = #[] from rfl, e]
        exact At.new w.drew _
      · have e : (Value.string ⟨#[]⟩).cells.size = 1 := rfl
        simp only [Enc.flat, List.flatMap_nil, List.nil_append, Array.length_toList, Array.size_append, size_zeroCells, e]
        show _ = _ * 1
        omega⟩
theorem modify_at {w : World} {b : Nat} {cs : Array Value} {t : TypeId} {f : Nat × Nat} (h : At w b (.cells cs t f)) (g : Array Value → Array Value) : At (Sort.mapBlock w b g) b (.cells (g cs) t f) := by
  unfold At at h ⊢
  simp [Sort.mapBlock, Array.getElem?_modify, h, Sort.onCells]
theorem mapBlock_chg (w : World) (b : Nat) (g : Array Value → Array Value) : Chg [b] w (Sort.mapBlock w b g) :=
  ⟨rfl, rfl, rfl, by simp [Sort.mapBlock], fun c _ hn => by
    show (w.heap.modify b _)[c]? = _
    rw [Array.getElem?_modify, if_neg (by simp at hn; omega)]⟩
theorem ahead_ext (w : World) (q : Nat) : Ext w (Sort.ahead w q) := ⟨rfl, rfl, rfl, Nat.le_refl _, fun _ _ _ => rfl⟩
theorem put_row (D l : List ByteArray) (junk : List Value) (h : D.length = l.length) : Sort.putCells Value.string 0 D.toArray (l.map Value.string ++ junk).toArray = (D.map Value.string ++ junk).toArray := by
  apply Array.ext
  · simp [Sort.putCells, h]
  · intro k h1 h2
    simp only [Sort.putCells, Array.getElem_mapIdx, List.getElem_toArray, Nat.zero_add, Nat.sub_zero, List.size_toArray]
    by_cases hk : k < D.length
    · rw [if_pos ⟨Nat.zero_le _, hk⟩, List.getElem_append_left (by simpa using hk)]
      simp [getElem!_pos, hk]
    · rw [if_neg (by omega), List.getElem_append_right (by simp; omega), List.getElem_append_right (by simp; omega)]
      simp [h]
theorem del_spec {g : FuncId} {capl : List Value} {v : Value} {l : List ByteArray} {B : Nat} (w : World) (p : ByteArray → Bool) (hb : hasBody Tryz.prog g = true) (ho : Own strE T.string B w v l) (hn : l.length ≤ 100000000)
    (hp : ∀ (W : World) (x : ByteArray), Chg (blkOf v) w W → K.Spec Tryz.prog g (Value.string x :: capl) W fun r w' => r = .bool (p x) ∧ w' = W) :
    K.Spec Tryz.prog F.slices_DeleteFunc_L_string_string [v, .func (.func g) #[] capl.toArray] w fun r w' => Own strE T.string B w' r (l.filter fun x => !p x) ∧ Chg (blkOf v) w w' ∧ ∀ b ∈ blkOf r, b ∈ blkOf v := by
  have ho0 := ho
  rcases ho with ⟨rfl, rfl⟩ | ⟨b, cap, junk, rfl, hB, hat, hlen⟩
  · exact (YteggaepppahefaaGreat.del_empty Tryz.deleteFunc none 0 (.func (.func g) #[] capl.toArray) w).mono fun e w' ⟨he, hw⟩ => ⟨_, he, .inl ⟨rfl, by simp⟩, hw ▸ Chg.refl _ _, by simp⟩
  · have hcap : l.length ≤ cap := by
      rw [List.length_append, Enc.flat_length] at hlen
      have e : strE.k = 1 := rfl
      rw [e] at hlen; omega
    have hflat : ∀ m : List ByteArray, strE.flat m = m.map Value.string := fun m => by
      induction m with
      | nil => rfl
      | cons x m ih => simp only [Enc.flat, List.flatMap_cons, List.map_cons] at ih ⊢; rw [ih]; rfl
    rw [hflat] at hat hlen
    have hcall : ∀ (W : World) (x : ByteArray), Chg [b] w W → FnGives Tryz.prog g capl.toArray #[Value.string x] (.bool (p x)) W := fun W x hc => by
      unfold FnGives
      have := hp W x (by simpa [blkOf] using hc)
      have e : (#[Value.string x] ++ capl.toArray : Array Value) = (Value.string x :: capl).toArray := by simp
      rw [e]
      exact Calls.mono this fun e w' ⟨r, he, hr, hw⟩ => ⟨by rw [he, hr], 0, by rw [hw]; rfl⟩
    have hH : Sort.Holds Value.string w b 0 l.toArray := fun j hj => by
      have hj' : j < l.length := by simpa using hj
      have hat' : w.heap[b]? = some (.cells (l.map Value.string ++ junk).toArray T.string (0, 0)) := hat
      refine ⟨?_, ?_⟩
      · simp only [World.cell?, hat', Nat.zero_add]
        simp [hj', List.getElem?_append_left, getElem!_pos]
      · simp [World.frozen?, hat']
    have key := AnyE.slices_DeleteFunc Tryz.deleteFunc Value.string (fun _ => rfl) p g capl.toArray (fun args W => run_enter hb) ⟨#[]⟩ Tryz.zeroValue9 b 0 cap l.toArray w (fun W x hb => hcall W x (by
        exact ⟨hb.os, hb.tape, hb.output, hb.size, fun c hc _ => hb.block c hc⟩)) (fun n os dk x hd => hcall _ x ?_) hH (by simp; omega) (by simpa using hcap)
    · simp only [List.size_toArray] at key
      refine Calls.mono (show Calls Tryz.prog F.slices_DeleteFunc_L_string_string #[.slice (some ⟨b, 0, none⟩) l.length cap, .func (.func g) #[] capl.toArray] w _ from key) ?_
      rintro e w' ⟨he, q, rfl⟩
      have hfl : (l.filter fun x => !p x).length ≤ l.length := List.length_filter_le _ _
      have hm := modify_at (At.ext (ahead_ext w q) hat) (Sort.putCells Value.string 0 ((l.filter fun x => !p x) ++ List.replicate (l.length - (l.filter fun x => !p x).length) (⟨#[]⟩ : ByteArray)).toArray)
      rw [put_row _ _ _ (by simp; omega), List.map_append, List.append_assoc] at hm
      refine ⟨_, he, .inr ⟨b, cap, _, rfl, hB, by rw [hflat]; exact hm, ?_⟩, ?_, fun c hc => by simpa [blkOf] using hc⟩
      · rw [hflat]
        simp only [List.length_append, List.length_map, List.length_replicate] at hlen ⊢
        rw [← hlen]; omega
      · exact (Ext.chg (ahead_ext w q) (mapBlock_chg _ _ _)).mono (fun c hc => .inl (by simpa [blkOf] using hc))
    · have c1 : Chg [b] w (Sort.putRow Value.string (Sort.ahead w n) b 0 dk) := Ext.chg (ahead_ext w n) (mapBlock_chg _ _ _)
      refine Chg.ext c1 ⟨rfl, rfl, rfl, by simp only [sortWorld, Sort.grow, Array.size_append]; omega, fun c hc _ => ?_⟩
      show ((Sort.putRow Value.string (Sort.ahead w n) b 0 dk).heap ++ os)[c]? = _
      rw [Array.getElem?_append_left hc]
attribute [local irreducible] regK codeK retK KOp.wp K.Spec u32 leS vnS str zero32 sha2 encT idT

theorem take_eq {α : Type} {l m : List α} {i : Nat} (h : l.take i = m.take i) (h1 : i < l.length) (h2 : i < m.length) (e : l[i] = m[i]) : l.take (i + 1) = m.take (i + 1) := by
  rw [List.take_succ_eq_append_getElem h1, List.take_succ_eq_append_getElem h2, h, e]
theorem indexS_spec {v : Value} {l : List ByteArray} (a : ByteArray) (w : World) (hs : SlE strE w v l) (hn : l.length ≤ 1000000000000) : K.Spec Tryz.prog F.slices_Index_L_string_string [v, .string a] w fun r w' => r = .int .i64 (idxOf (fun x => decide (a = x)) l) ∧ w' = w := by
  refine s_slices_Index_L_string_string rfl ?_
  unfold k_slices_Index_L_string_string
  refine ox ?_
  repeat (first|refine go ?_|refine zg (fun _ _=>?_)|refine zi (fun _ _=>?_))
  refine st_len rfl hs ?_
  repeat (first|refine go ?_|refine zg (fun _ _=>?_)|refine zi (fun _ _=>?_))
  refine c_loopV (fun (i : Nat) w' => w' = w ∧ i ≤ l.length ∧ ∀ j, j < i → ∀ h : j < l.length, a ≠ l[j]) (fun i => [(0, v), (1, .string a), (6, v), (7, .int .i64 (l.length : Nat)), (8, .int .i64 i)]) (fun i => l.length - i) 0 ⟨rfl, rfl, rfl, rfl, rfl, trivial⟩ ⟨rfl, by omega, by omega⟩ ?_
  rintro i ρ w1 ⟨rfl, hi, hk⟩
  repeat (first|refine go ?_|refine zg (fun _ _=>?_)|refine zi (fun _ _=>?_))
  refine zL rfl (fun h => ?_) (fun h => ?_)
  · have hil : i < l.length := by omega
    repeat (first|refine go ?_|refine zg (fun _ _=>?_)|refine zi (fun _ _=>?_))
    refine st_elemE rfl rfl hs rfl hil (fun ad r1 => ?_)
    repeat (first|refine go ?_|refine zg (fun _ _=>?_)|refine zi (fun _ _=>?_))
    refine zL rfl (fun h2 => ?_) (fun h2 => ?_)
    · repeat (first|refine go ?_|refine zg (fun _ _=>?_)|refine zi (fun _ _=>?_))
      exact x_ret rfl ⟨congrArg (Value.int .i64) (idxOf_hit hil (by simpa using h2) (fun j hj => by simpa using hk j hj (by omega))).symm, rfl⟩
    · repeat (first|refine go ?_|refine zg (fun _ _=>?_)|refine zi (fun _ _=>?_))
      refine ⟨i + 1, ⟨rfl, rfl, rfl, rfl, rfl, trivial⟩, ⟨rfl, by omega, fun j hj hl => ?_⟩, by omega⟩
      by_cases hji : j = i
      · subst hji; exact h2
      · exact hk j (by omega) hl
  · repeat (first|refine go ?_|refine zg (fun _ _=>?_)|refine zi (fun _ _=>?_))
    exact x_ret rfl ⟨congrArg (Value.int .i64) (idxOf_miss (fun j hj => by simpa using hk j (by omega) hj)).symm, rfl⟩
theorem containsS_spec {v : Value} {l : List ByteArray} (a : ByteArray) (w : World) (hs : SlE strE w v l) (hn : l.length ≤ 1000000000000) : K.Spec Tryz.prog F.slices_Contains_L_string_string [v, .string a] w fun r w' => r = .bool (l.any fun x => decide (a = x)) ∧ w' = w := by
  refine s_slices_Contains_L_string_string rfl ?_
  unfold k_slices_Contains_L_string_string
  refine ox ?_
  repeat (first|refine go ?_|refine zg (fun _ _=>?_)|refine zi (fun _ _=>?_))
  refine zC rfl (indexS_spec a _ hs hn) ?_
  rintro _ _ ⟨rfl, rfl⟩
  repeat (first|refine go ?_|refine zg (fun _ _=>?_)|refine zi (fun _ _=>?_))
  exact x_ret rfl ⟨congrArg Value.bool idxOf_any, rfl⟩
theorem OwnR.toOwn {α : Type} {F : Enc α} {ag : Bool} {t : TypeId} {B : Nat} {M : List Nat} {w : World} {v : Value} {l : List α} (h : OwnR (R.flat F ag) t B M w v l) : Own F t B w v l := by
  obtain ⟨css, h1, h2⟩ := h
  have hlen := h2.length
  have e : css = l.map F.vec := by
    clear h1 hlen
    induction h2 with
    | nil => rfl
    | cons hx _ ih => rw [ih, List.map_cons]; congr 1; exact Subtype.ext hx
  subst e
  rcases h1 with ⟨rfl, h⟩ | ⟨b, cap, junk, rfl, hB, hat, hl⟩
  · exact .inl ⟨rfl, List.map_eq_nil_iff.1 h⟩
  · refine .inr ⟨b, cap, junk, congrArg (fun n => Value.slice (some ⟨b, 0, none⟩) n cap) hlen, hB, ?_, ?_⟩
    · rw [← flat_vecs]; exact hat
    · rw [← flat_vecs]; exact hl
def cat2 (l1 l2 : List ByteArray) : Nat → List ByteArray
  | 0 => []
  | 1 => l1
  | _ => l1 ++ l2
theorem cat2_len (l1 l2 : List ByteArray) (i : Nat) : (cat2 l1 l2 i).length ≤ l1.length + l2.length := by
  match i with
  | 0 => simp [cat2]
  | 1 => simp [cat2]
  | _ + 2 => simp [cat2]
theorem lt2 {n : Nat} (h : (n : Int) < 2) : n = 0 ∨ n = 1 := by omega
theorem concat_spec {bq : Nat} {v1 v2 : Value} {l1 l2 : List ByteArray} (w : World) (h : At w bq (.cells [v1, v2].toArray T.L_string (0, 0))) (h1 : SlE strE w v1 l1) (h2 : SlE strE w v2 l2) (hn : l1.length + l2.length ≤ 100000000) : K.Spec Tryz.prog F.slices_Concat_L_string_string [.slice (some ⟨bq, 0, none⟩) 2 2] w fun r w' => Own strE T.string w.heap.size w' r (l1 ++ l2) ∧ Ext w w' := by
  have hr : Row w ⟨bq, 0, none⟩ [v1, v2] := Row.of_at h
  have hq := h.lt
  refine s_slices_Concat_L_string_string rfl ?_
  unfold k_slices_Concat_L_string_string
  refine ox ?_
  repeat' (first|(first|refine go1 ?_|refine zg (fun _ _=>?_)|refine zi (fun _ _=>?_))|refine zL rfl (fun h => ?_) (fun h => ?_)|(refine (lt2 (n := i) h).elim (fun e => ?_) (fun e => ?_) <;> subst e)|(refine (lt2 (n := j) h).elim (fun e => ?_) (fun e => ?_) <;> subst e)|(refine st_index rfl rfl (by omega) ?_)|(refine st_len rfl (SlE.ext (w := w) (by exact fx) h1) ?_)|(refine st_len rfl (SlE.ext (w := w) (by exact fx) h2) ?_)|(refine st_append (E := strE) (v := vo) (l2 := l1) rfl (ho4.ext (by exact fx)) (Ext.size (w := w) (by exact fx)) rfl rfl (SlE.cells (SlE.ext (w := w) (by exact fx) h1)) rfl rfl (by have := cat2_len l1 l2 0; omega) (fun v5 w5 ho5 c5 => ?_))|(refine st_append (E := strE) (v := vo) (l2 := l2) rfl (ho4.ext (by exact fx)) (Ext.size (w := w) (by exact fx)) rfl rfl (SlE.cells (SlE.ext (w := w) (by exact fx) h2)) rfl rfl (by have := cat2_len l1 l2 1; omega) (fun v6 w6 ho6 c6 => ?_))|(refine c_loopV (fun (i : Nat) w' => Ext w w' ∧ i ≤ 2) (fun i => [(0, .slice (some ⟨bq, 0, none⟩) 2 2), (3, .int .i64 ((cat2 l1 l2 i).length : Nat)), (9, .slice (some ⟨bq, 0, none⟩) 2 2), (10, .int .i64 2), (11, .int .i64 i)]) (fun i => 2 - i) 0 ⟨rfl, rfl, rfl, rfl, rfl, trivial⟩ ⟨Ext.refl _, by omega⟩ ?_; rintro i ρ w2 ⟨x2, hi⟩; have hcl := cat2_len l1 l2 i)|(refine zC rfl (grow_spec (cat2 l1 l2 i).length (by omega) _) ?_; rintro v3 w3 ⟨ho3, x3⟩)|(refine c_loopV (fun (p : Nat × Value) w' => Ext w w' ∧ p.1 ≤ 2 ∧ Own strE T.string w.heap.size w' p.2 (cat2 l1 l2 p.1)) (fun p => [(6, p.2), (25, .slice (some ⟨bq, 0, none⟩) 2 2), (26, .int .i64 2), (27, .int .i64 p.1)]) (fun p => 2 - p.1) (0, v3) ⟨rfl, rfl, rfl, rfl, trivial⟩ ⟨by exact fx, by simp, ho3.lower x2.size⟩ ?_; rintro ⟨j, vo⟩ ρ4 w4 ⟨x4, hj, ho4⟩; simp only at hj ho4; dsimp only))
  all_goals first
    | exact absurd (by assumption : _ < (0 : Int)) (by omega)
    | exact ⟨1, ⟨rfl, congrArg (Value.int .i64) (by show _ = ((l1.length : Nat) : Int); simp [cat2]), rfl, rfl, rfl, trivial⟩, ⟨by exact fx, by omega⟩, by omega⟩
    | exact ⟨2, ⟨rfl, congrArg (Value.int .i64) (by show _ = (((l1 ++ l2).length : Nat) : Int); simp [cat2]), rfl, rfl, rfl, trivial⟩, ⟨by exact fx, by omega⟩, by omega⟩
    | exact ⟨(1, v5), ⟨rfl, rfl, rfl, rfl, trivial⟩, ⟨(Ext.chg (w := w) (by exact fx) c5).mono (fun b hb => .inr (ho4.base b (by simpa using hb))), by simp, by simpa [cat2] using ho5⟩, by simp⟩
    | exact ⟨(2, v6), ⟨rfl, rfl, rfl, rfl, trivial⟩, ⟨(Ext.chg (w := w) (by exact fx) c6).mono (fun b hb => .inr (ho4.base b (by simpa using hb))), by simp, by simpa [cat2] using ho6⟩, by simp⟩
    | (obtain rfl : j = 2 := by omega
       exact x_ret rfl ⟨ho4, by exact fx⟩)
    | trace_state
end Go.Proofs.YteggaepppahefaaGreat
end
