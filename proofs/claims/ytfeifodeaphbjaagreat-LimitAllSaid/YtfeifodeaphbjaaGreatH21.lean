/- Contracts: builders of text, the base point; searches. Contracts: searches by a function value. -/
import Derived.Test.YtfeifodeaphbjaaGreatH20
set_option linter.unusedVariables false
set_option linter.unusedSimpArgs false
section
namespace Go.Proofs.YtfeifodeaphbjaaGreat
open Go Go.K

theorem repeatL_zero : ∀ n : Nat, Lib.repeatL [0] n = List.replicate n 0
  | 0 => rfl
  | n + 1 => by
    have := repeatL_zero n
    simp only [Lib.repeatL, List.replicate_succ] at this ⊢
    first | (rw [this]; rfl) | simp [this]
theorem rep_spec (n : Nat) (hn : n ≤ 1000) (w : World) : K.Spec Tryz.prog F.strings_Repeat [.string ⟨#[0]⟩, .int .i64 (n : Nat)] w fun r w' => r = .string (str (List.replicate n 0)) ∧ Ext w w' :=
  (Tryz.strings_Repeat ⟨#[0]⟩ n w (by omega) (by show 1 * n ≤ _; omega)).mono fun e w' ⟨he, hb⟩ => ⟨_, he, by
    show Value.string ⟨(Lib.repeatL [0] n).toArray⟩ = _
    rw [repeatL_zero]; rfl, Ext.of_below hb⟩
abbrev BldT (B b : Nat) (s : ByteArray) (w : World) : Prop := Bld T.strings_Builder T.uint8 B b s w
abbrev WrT (B b : Nat) (w w' : World) : Prop := Wr T.uint8 B b w w'
theorem wr_spec {B b : Nat} {a : ByteArray} (s : ByteArray) (w : World) (h : BldT B b a w) (hl : a.size + s.size ≤ 100000000) : K.Spec Tryz.prog F.strings_Builder_WriteString [.pointer (some ⟨b, 0, none⟩), .string s] w fun _ w' => BldT B b (a ++ s) w' ∧ WrT B b w w' :=
  (Tryz.Builder_WriteString_k B b _ s w h.2 (by
    rw [Lib.byteCells_length, Array.length_toList]
    have : a.data.size = a.size := rfl
    omega) h.1).mono fun e w' ⟨he, h1, h2, h3⟩ => ⟨_, he, ⟨Nat.le_trans h.1 h2.size, .inr (by rw [← byteCells_append]; exact h1)⟩, h2, h3⟩
theorem bstr_spec {B b : Nat} {a : ByteArray} (w : World) (h : BldT B b a w) : K.Spec Tryz.prog F.strings_Builder_String [.pointer (some ⟨b, 0, none⟩)] w fun r w' => r = .string a ∧ BldT B b a w' ∧ WrT B b w w' :=
  (Tryz.Builder_String_any_k B b _ w h.2 h.1).mono fun e w' ⟨he, h1, h2, h3⟩ => ⟨_, he, rfl, ⟨Nat.le_trans h.1 h2.size, h1⟩, h2, h3⟩
attribute [local irreducible] regK codeK retK KOp.wp K.Spec leS vnS str
theorem base_spec (w : World) : K.Spec Tryz.prog F.tx_base [] w fun r w' => r = baseP.val ∧ Ext w w' := by
  refine s_tx_base rfl ?_
  unfold k_tx_base
  refine ox ?_
  repeat' (first|(first|refine go1 ?_|refine zg (fun _ _=>?_)|refine zi (fun _ _=>?_))|refine zH (fun b w1 x1 a1 hb => ?_)|(refine zC rfl (rep_spec 32 (by decide) _) ?_;rintro _ w2 ⟨rfl, x2⟩)|refine st_setN (vs := baseP.cs) (Ext.trans x1 x2) hb (a1.ext x2) rfl rfl rfl rfl rfl (fun w5 x5 c5 a5 r5 => ?_))
  exact x_ret (ret1 (rv_cell r5 rfl rfl)) ⟨rfl, x5⟩
/-- What a function value answers, of what lies in a list. -/
def Tells {α : Type} (g : FuncId) (capl : List Value) (E : R α) (val : List Value → Value) (M : List Nat) (w : World) (l : List α) (p : α → Bool) : Prop :=
  ∀ x ∈ l, ∀ w' cs, Ext w w' → E.rel M w' cs x → K.Spec Tryz.prog g (val cs :: capl) w' fun r w'' => r = .bool (p x) ∧ Ext w' w''
end Go.Proofs.YtfeifodeaphbjaaGreat
end
section
namespace Go.Proofs.YtfeifodeaphbjaaGreat
open Go Go.K
attribute [local irreducible] regK codeK retK KOp.wp K.Spec leS vnS str

theorem idxIn_spec {M : List Nat} {v : Value} {l : List TIn} {g : FuncId} {capl : List Value} {p : TIn → Bool} (w : World) (hb : hasBody Tryz.prog g = true) (hs : SlR inR M w v l) (hn : l.length ≤ 1000000000000) (hp : Tells g capl inR (fun cs => .agg cs.toArray) M w l p) :
    K.Spec Tryz.prog F.slices_IndexFunc_L_api_In_api_In [v, .func (.func g) #[] capl.toArray] w fun r w' => r = .int .i64 (idxOf p l) ∧ Ext w w' := by
  refine s_slices_IndexFunc_L_api_In_api_In rfl ?_
  unfold k_slices_IndexFunc_L_api_In_api_In
  refine ox ?_
  repeat' (first|(first|refine go1 ?_|refine zg (fun _ _=>?_)|refine zi (fun _ _=>?_))|refine zG rfl hs ?_|(refine c_loopV (fun (i : Nat) w' => Ext w w' ∧ i ≤ l.length ∧ ∀ j, j < i → ∀ h : j < l.length, p l[j] = false) (fun i => [(0, v), (1, .func (.func g) #[] capl.toArray), (6, v), (7, .int .i64 (l.length : Nat)), (8, .int .i64 i)]) (fun i => l.length - i) 0 ⟨rfl, rfl, rfl, rfl, rfl, trivial⟩ ⟨Ext.refl _, by omega, by omega⟩ ?_; rintro i ρ w1 ⟨x1, hi, hk⟩)|refine zL rfl (fun h => ?_) (fun h => ?_)|(refine st_elemR rfl rfl (hs.ext x1) rfl (by omega) (fun ad cs r1 he => ?_))|refine st_lN0 rfl r1 (by rw [inR.len he]; exact Nat.le_refl _) (List.take_of_length_le (by rw [inR.len he]; exact Nat.le_refl _)) ?_|(refine st_callV rfl hb rfl (hp _ (List.getElem_mem _) _ _ x1 he) ?_; rintro _ w2 ⟨rfl, x2⟩)|refine zM rfl (fun h2 => ?_) (fun h2 => ?_))
  · exact x_ret rfl ⟨congrArg (Value.int .i64) (idxOf_hit (by omega) h2 (fun j hj => hk j hj (by omega))).symm, by repeat (first | assumption | exact Ext.refl _ | refine Ext.trans ?_ (by assumption))⟩
  · refine ⟨i + 1, ⟨rfl, rfl, rfl, rfl, rfl, trivial⟩, ⟨x1.trans x2, by omega, fun j hj hl => ?_⟩, by omega⟩
    by_cases hji : j = i
    · subst hji; exact h2
    · exact hk j (by omega) hl
  · exact x_ret rfl ⟨congrArg (Value.int .i64) (idxOf_miss (fun j hj => hk j (by omega) hj)).symm, x1⟩
theorem idxIn_any {M : List Nat} {v : Value} {l : List TIn} {g : FuncId} {capl : List Value} {p : TIn → Bool} (w : World) (hb : hasBody Tryz.prog g = true) (hs : SlR inR M w v l) (hn : l.length ≤ 1000000000000) (hp : Tells g capl inR (fun cs => .agg cs.toArray) M w l p) :
    K.Spec Tryz.prog F.slices_ContainsFunc_L_api_In_api_In [v, .func (.func g) #[] capl.toArray] w fun r w' => r = .bool (l.any p) ∧ Ext w w' := by
  refine s_slices_ContainsFunc_L_api_In_api_In rfl ?_
  unfold k_slices_ContainsFunc_L_api_In_api_In
  refine ox ?_
  repeat' (first|(first|refine go1 ?_|refine zg (fun _ _=>?_)|refine zi (fun _ _=>?_))|(refine zC rfl (idxIn_spec _ hb hs hn hp) ?_; rintro _ w2 ⟨rfl, x2⟩))
  exact x_ret rfl ⟨congrArg Value.bool idxOf_any, x2⟩
theorem idxOut_spec {M : List Nat} {v : Value} {l : List TOut} {g : FuncId} {capl : List Value} {p : TOut → Bool} (w : World) (hb : hasBody Tryz.prog g = true) (hs : SlR outR M w v l) (hn : l.length ≤ 1000000000000) (hp : Tells g capl outR (fun cs => .agg cs.toArray) M w l p) :
    K.Spec Tryz.prog F.slices_IndexFunc_L_api_Out_api_Out [v, .func (.func g) #[] capl.toArray] w fun r w' => r = .int .i64 (idxOf p l) ∧ Ext w w' := by
  refine s_slices_IndexFunc_L_api_Out_api_Out rfl ?_
  unfold k_slices_IndexFunc_L_api_Out_api_Out
  refine ox ?_
  repeat' (first|(first|refine go1 ?_|refine zg (fun _ _=>?_)|refine zi (fun _ _=>?_))|refine zG rfl hs ?_|(refine c_loopV (fun (i : Nat) w' => Ext w w' ∧ i ≤ l.length ∧ ∀ j, j < i → ∀ h : j < l.length, p l[j] = false) (fun i => [(0, v), (1, .func (.func g) #[] capl.toArray), (6, v), (7, .int .i64 (l.length : Nat)), (8, .int .i64 i)]) (fun i => l.length - i) 0 ⟨rfl, rfl, rfl, rfl, rfl, trivial⟩ ⟨Ext.refl _, by omega, by omega⟩ ?_; rintro i ρ w1 ⟨x1, hi, hk⟩)|refine zL rfl (fun h => ?_) (fun h => ?_)|(refine st_elemR rfl rfl (hs.ext x1) rfl (by omega) (fun ad cs r1 he => ?_))|refine st_lN0 rfl r1 (by rw [outR.len he]; exact Nat.le_refl _) (List.take_of_length_le (by rw [outR.len he]; exact Nat.le_refl _)) ?_|(refine st_callV rfl hb rfl (hp _ (List.getElem_mem _) _ _ x1 he) ?_; rintro _ w2 ⟨rfl, x2⟩)|refine zM rfl (fun h2 => ?_) (fun h2 => ?_))
  · exact x_ret rfl ⟨congrArg (Value.int .i64) (idxOf_hit (by omega) h2 (fun j hj => hk j hj (by omega))).symm, by repeat (first | assumption | exact Ext.refl _ | refine Ext.trans ?_ (by assumption))⟩
  · refine ⟨i + 1, ⟨rfl, rfl, rfl, rfl, rfl, trivial⟩, ⟨x1.trans x2, by omega, fun j hj hl => ?_⟩, by omega⟩
    by_cases hji : j = i
    · subst hji; exact h2
    · exact hk j (by omega) hl
  · exact x_ret rfl ⟨congrArg (Value.int .i64) (idxOf_miss (fun j hj => hk j (by omega) hj)).symm, x1⟩
theorem idxOut_any {M : List Nat} {v : Value} {l : List TOut} {g : FuncId} {capl : List Value} {p : TOut → Bool} (w : World) (hb : hasBody Tryz.prog g = true) (hs : SlR outR M w v l) (hn : l.length ≤ 1000000000000) (hp : Tells g capl outR (fun cs => .agg cs.toArray) M w l p) :
    K.Spec Tryz.prog F.slices_ContainsFunc_L_api_Out_api_Out [v, .func (.func g) #[] capl.toArray] w fun r w' => r = .bool (l.any p) ∧ Ext w w' := by
  refine s_slices_ContainsFunc_L_api_Out_api_Out rfl ?_
  unfold k_slices_ContainsFunc_L_api_Out_api_Out
  refine ox ?_
  repeat' (first|(first|refine go1 ?_|refine zg (fun _ _=>?_)|refine zi (fun _ _=>?_))|(refine zC rfl (idxOut_spec _ hb hs hn hp) ?_; rintro _ w2 ⟨rfl, x2⟩))
  exact x_ret rfl ⟨congrArg Value.bool idxOf_any, x2⟩
theorem idxStr_spec {M : List Nat} {v : Value} {l : List ByteArray} {g : FuncId} {capl : List Value} {p : ByteArray → Bool} (w : World) (hb : hasBody Tryz.prog g = true) (hs : SlR strR M w v l) (hn : l.length ≤ 1000000000000) (hp : Tells g capl strR (fun cs => cs.headD undef) M w l p) :
    K.Spec Tryz.prog F.slices_IndexFunc_L_string_string [v, .func (.func g) #[] capl.toArray] w fun r w' => r = .int .i64 (idxOf p l) ∧ Ext w w' := by
  refine s_slices_IndexFunc_L_string_string rfl ?_
  unfold k_slices_IndexFunc_L_string_string
  refine ox ?_
  repeat' (first|(first|refine go1 ?_|refine zg (fun _ _=>?_)|refine zi (fun _ _=>?_))|refine zG rfl hs ?_|(refine c_loopV (fun (i : Nat) w' => Ext w w' ∧ i ≤ l.length ∧ ∀ j, j < i → ∀ h : j < l.length, p l[j] = false) (fun i => [(0, v), (1, .func (.func g) #[] capl.toArray), (6, v), (7, .int .i64 (l.length : Nat)), (8, .int .i64 i)]) (fun i => l.length - i) 0 ⟨rfl, rfl, rfl, rfl, rfl, trivial⟩ ⟨Ext.refl _, by omega, by omega⟩ ?_; rintro i ρ w1 ⟨x1, hi, hk⟩)|refine zL rfl (fun h => ?_) (fun h => ?_)|(refine st_elemR rfl rfl (hs.ext x1) rfl (by omega) (fun ad cs r1 he => ?_); have hq : cs = [Value.string l[i]] := he; rw [hq] at r1 he)|refine st_lN0 rfl r1 (by rw [strR.len he]; exact Nat.le_refl _) (List.take_of_length_le (by rw [strR.len he]; exact Nat.le_refl _)) ?_|(refine st_callV rfl hb rfl (hp _ (List.getElem_mem _) _ _ x1 he) ?_; rintro _ w2 ⟨rfl, x2⟩)|refine zM rfl (fun h2 => ?_) (fun h2 => ?_))
  · exact x_ret rfl ⟨congrArg (Value.int .i64) (idxOf_hit (by omega) h2 (fun j hj => hk j hj (by omega))).symm, by repeat (first | assumption | exact Ext.refl _ | refine Ext.trans ?_ (by assumption))⟩
  · refine ⟨i + 1, ⟨rfl, rfl, rfl, rfl, rfl, trivial⟩, ⟨x1.trans x2, by omega, fun j hj hl => ?_⟩, by omega⟩
    by_cases hji : j = i
    · subst hji; exact h2
    · exact hk j (by omega) hl
  · exact x_ret rfl ⟨congrArg (Value.int .i64) (idxOf_miss (fun j hj => hk j (by omega) hj)).symm, x1⟩
theorem idxStr_any {M : List Nat} {v : Value} {l : List ByteArray} {g : FuncId} {capl : List Value} {p : ByteArray → Bool} (w : World) (hb : hasBody Tryz.prog g = true) (hs : SlR strR M w v l) (hn : l.length ≤ 1000000000000) (hp : Tells g capl strR (fun cs => cs.headD undef) M w l p) :
    K.Spec Tryz.prog F.slices_ContainsFunc_L_string_string [v, .func (.func g) #[] capl.toArray] w fun r w' => r = .bool (l.any p) ∧ Ext w w' := by
  refine s_slices_ContainsFunc_L_string_string rfl ?_
  unfold k_slices_ContainsFunc_L_string_string
  refine ox ?_
  repeat' (first|(first|refine go1 ?_|refine zg (fun _ _=>?_)|refine zi (fun _ _=>?_))|(refine zC rfl (idxStr_spec _ hb hs hn hp) ?_; rintro _ w2 ⟨rfl, x2⟩))
  exact x_ret rfl ⟨congrArg Value.bool idxOf_any, x2⟩
end Go.Proofs.YtfeifodeaphbjaaGreat
end
