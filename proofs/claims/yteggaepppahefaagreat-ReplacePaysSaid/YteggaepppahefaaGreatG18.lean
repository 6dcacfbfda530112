/- DERIVED: THE SHELF's CONTRACTS AT THIS DUMP, IN PLAIN WORDS (tools/lay-plain.mjs out of 'YteggaepppahefaaGreatShelf.lean', which tools/lay-shelf.mjs wrote): THE SAME DECLARATIONS UNDER THE SAME NAMES: 'import', 'namespace', 'open', 'def', 'theorem' AND NOTHING ELSE: no command of the shelf's: FOR A HAND-IN. Each laying: the table of numbers ('.._ren') and one theorem, a field a fact of the dump's  -/
import Derived.Shelf.Strings.Builder1
import Derived.Shelf.Strings.Builder2
import Derived.Shelf.Strings.BuilderF
import Derived.Shelf.Strings.BuilderK
import Derived.Shelf.Strings.Prefix
import Derived.Shelf.Bits.Mul64
import Derived.Shelf.Strings.Repeat
import Derived.Ground.SlgnProg
import Derived.Ground.SlgfProg
import Derived.Test.YteggaepppahefaaGreatProg
import Derived.Ground.SlmcProg
import Derived.Shelf.SlMaps.Clone
import Derived.Shelf.SlicesE.DeleteFunc
import Derived.Test.YteggaepppahefaaGreatG16
set_option linter.unusedVariables false
set_option linter.unusedSimpArgs false
section
namespace Go.Proofs
open Go.Shelf
def Tryz.lays105_ren : Go.Shelf.Ren := ⟨fun | 105 => 150 | 212 => 166 | 99 => 167 | 165 => 168 | 166 => 134 | 170 => 169 | 169 => 138 | 263 => 177 | 264 => 68 | 206 => 178 | 240 => 158 | 241 => 179 | 276 => 172 | 277 => 181 | n => n, fun | 9 => 9 | 3 => 3 | 4 => 4 | 20 => 20 | 0 => 0 | 46 => 151 | 109 => 190 | 5 => 5 | 72 => 168 | 76 => 169 | 51 => 27 | 146 => 200 | 53 => 117 | 148 => 118 | 70 => 166 | 37 => 62 | 75 => 163 | 127 => 186 | 164 => 196 | 80 => 173 | n => n, fun | n => n⟩
theorem Tryz.lays105 : Go.Proofs.Lays.n105 Tryz.prog Tryz.lays105_ren := {
  mixed := by kernel_rfl
  f99 := Tryz.func167.trans (congrArg some (by kernel_rfl))
  f105 := Tryz.func150.trans (congrArg some (by kernel_rfl))
  f165 := Tryz.func168.trans (congrArg some (by kernel_rfl))
  f166 := Tryz.func134.trans (congrArg some (by kernel_rfl))
  f169 := Tryz.func138.trans (congrArg some (by kernel_rfl))
  f170 := Tryz.func169.trans (congrArg some (by kernel_rfl))
  f206 := Tryz.func178.trans (congrArg some (by kernel_rfl))
  f212 := Tryz.func166.trans (congrArg some (by kernel_rfl))
  f240 := Tryz.func158.trans (congrArg some (by kernel_rfl))
  f241 := Tryz.func179.trans (congrArg some (by kernel_rfl))
  f263 := Tryz.func177.trans (congrArg some (by kernel_rfl))
  f264 := Tryz.func68.trans (congrArg some (by kernel_rfl))
  f276 := Tryz.func172.trans (congrArg some (by kernel_rfl))
  f277 := Tryz.func181.trans (congrArg some (by kernel_rfl))
  t0 := Tryz.underlying0
  a0 := Tryz.isAgg0
  z0 := Tryz.sizeOf0
  v0 := Tryz.zeroValue0
  t3 := Tryz.underlying3
  a3 := Tryz.isAgg3
  z3 := Tryz.sizeOf3
  v3 := Tryz.zeroValue3
  t4 := Tryz.underlying4
  a4 := Tryz.isAgg4
  z4 := Tryz.sizeOf4
  v4 := Tryz.zeroValue4
  t5 := Tryz.underlying5
  a5 := Tryz.isAgg5
  z5 := Tryz.sizeOf5
  v5 := Tryz.zeroValue5
  t9 := Tryz.underlying9
  a9 := Tryz.isAgg9
  z9 := Tryz.sizeOf9
  v9 := Tryz.zeroValue9
  t20 := Tryz.underlying20
  a20 := Tryz.isAgg20
  z20 := Tryz.sizeOf20
  v20 := Tryz.zeroValue20
  t37 := Tryz.underlying62
  a37 := Tryz.isAgg62
  z37 := Tryz.sizeOf62
  v37 := Tryz.zeroValue62
  t46 := Tryz.underlying151
  a46 := Tryz.isAgg151
  z46 := Tryz.sizeOf151
  v46 := Tryz.zeroValue151
  t51 := Tryz.underlying27
  a51 := Tryz.isAgg27
  z51 := Tryz.sizeOf27
  v51 := Tryz.zeroValue27
  t53 := Tryz.underlying117
  a53 := Tryz.isAgg117
  z53 := Tryz.sizeOf117
  v53 := Tryz.zeroValue117
  t70 := Tryz.underlying166
  a70 := Tryz.isAgg166
  z70 := Tryz.sizeOf166
  v70 := Tryz.zeroValue166
  t72 := Tryz.underlying168
  a72 := Tryz.isAgg168
  z72 := Tryz.sizeOf168
  v72 := Tryz.zeroValue168
  t75 := Tryz.underlying163
  a75 := Tryz.isAgg163
  z75 := Tryz.sizeOf163
  v75 := Tryz.zeroValue163
  t76 := Tryz.underlying169
  a76 := Tryz.isAgg169
  z76 := Tryz.sizeOf169
  v76 := Tryz.zeroValue169
  t109 := Tryz.underlying190
  a109 := Tryz.isAgg190
  z109 := Tryz.sizeOf190
  v109 := Tryz.zeroValue190
  t127 := Tryz.underlying186
  a127 := Tryz.isAgg186
  z127 := Tryz.sizeOf186
  v127 := Tryz.zeroValue186
  t146 := Tryz.underlying200
  a146 := Tryz.isAgg200
  z146 := Tryz.sizeOf200
  v146 := Tryz.zeroValue200
  t148 := Tryz.underlying118
  a148 := Tryz.isAgg118
  z148 := Tryz.sizeOf118
  v148 := Tryz.zeroValue118
  t164 := Tryz.underlying196
  a164 := Tryz.isAgg196
  z164 := Tryz.sizeOf196
  v164 := Tryz.zeroValue196 }
theorem Tryz.Builder_Extra_105 : Builder.Extra Tryz.prog Tryz.lays105_ren := {
  sizeBuilder := by kernel_rfl
  liesBuilder := by kernel_rfl
  t5 := Tryz.underlying5
  a5 := Tryz.isAgg5
  z5 := Tryz.sizeOf5
  v5 := Tryz.zeroValue5
  infoByte := by kernel_rfl
  cellsByte := by kernel_rfl
  sizeByte := by kernel_rfl
  neB5 := by decide }
open Go.RowKit Go.Lib in
/-- **strings.Repeat: count ≥ 0, the result within one allocation: count copies of s.** (LAID: no walk: one application.) -/
theorem Tryz.strings_Repeat (s : ByteArray) (c : Nat) (w : World) (hc : c ≤ 9223372036854775807) (hlen : s.size * c ≤ 140737488355328) :
    Calls Tryz.prog 150 #[.string s, .int .i64 c] w fun e w' => e = .returned (.string ⟨(Lib.repeatL s.data.toList c).toArray⟩) ∧ Below w.heap.size w w' := Any.strings_Repeat Tryz.lays105 Tryz.Builder_Extra_105 s c w hc hlen
open Go.RowKit in
/-- (*strings.Builder).WriteString: "WriteString appends the contents of s to b's buffer. It returns the length of s and a nil error.": UNDER Go's OWN LIMIT: the new length takes at most 2^47 bytes. THE FORM '_k': OVER 'Lib.IsBuilderF' (a builder that 'String()' may have read), AND WITH THE FRAME THAT REACHES ABOVE THE BUILDER: 'Lib.OthersKept': every block that is not b and is no row of uint8's stands as it stood: the iterator of a range among them.' HAS READ, TOO: the bytes go in BEHIND what is frozen, or, where there is no room, all goes over into a new row.) (LAID: no walk: one application.) -/
theorem Tryz.Builder_WriteString_k (B b : Nat) (bs : List Value) (s : ByteArray) (w : World) (h : Lib.IsBuilderF 168 5 B b bs w) (hlen : bs.length + s.size ≤ 140737488355328) (hBw : B ≤ w.heap.size) :
    Calls Tryz.prog 134 #[.pointer (some ⟨b, 0, none⟩), .string s] w fun e w' => e = .returned (.tuple #[.int .i64 s.size, .nilIface]) ∧ (Lib.BuilderAtF 168 5 B b (.pointer (some ⟨b, 0, none⟩)) (bs ++ Lib.strCells s) w' ∧ Below B w w' ∧ Lib.OthersKept 5 (some b) w w') := Any.Builder_WriteString_k { Tryz.lays105 with } Tryz.Builder_Extra_105 B b bs s w h hlen hBw
open Go.RowKit in
/-- (*strings.Builder).String: "String returns the accumulated string.": WHATEVER THE BUILDER HOLDS; THE FORM '_k': OVER 'Lib.IsBuilderF' (a builder that 'String()' may have read), AND WITH THE FRAME THAT REACHES ABOVE THE BUILDER: 'Lib.OthersKept': every block that is not b and is no row of uint8's stands as it stood: the iterator of a range among them. (LAID: no walk: one application.) -/
theorem Tryz.Builder_String_any_k (B b : Nat) (l : List UInt8) (w : World) (h : Lib.IsBuilderF 168 5 B b (Lib.byteCells l) w) (hBw : B ≤ w.heap.size) :
    Calls Tryz.prog 138 #[.pointer (some ⟨b, 0, none⟩)] w fun e w' => e = .returned (.string ⟨l.toArray⟩) ∧ (Lib.IsBuilderF 168 5 B b (Lib.byteCells l) w' ∧ Below B w w' ∧ Lib.OthersKept 5 (some b) w w') := Any.Builder_String_any_k { Tryz.lays105 with } Tryz.Builder_Extra_105 B b l w h hBw
def Tryz.cloneMap59_ren : Go.Shelf.Ren := ⟨fun | 5 => 59 | 7 => 100 | n => n, fun | 23 => 105 | 25 => 9 | 3 => 33 | 4 => 4 | 20 => 20 | n => n, fun | n => n⟩
def Tryz.cloneMap61_ren : Go.Shelf.Ren := ⟨fun | 5 => 61 | 7 => 100 | n => n, fun | 23 => 106 | 25 => 86 | 3 => 9 | 4 => 4 | 20 => 20 | n => n, fun | n => n⟩
def Tryz.deleteFunc_ren : Go.Shelf.Ren := ⟨fun | 10 => 89 | 6 => 111 | n => n, fun | 22 => 44 | 23 => 9 | 25 => 134 | 3 => 3 | 4 => 4 | 0 => 0 | n => n, fun | n => n⟩
theorem Tryz.deleteFunc : Go.Proofs.SlLaysH.n10 Tryz.prog Tryz.deleteFunc_ren := {
  mixed := by kernel_rfl
  f6 := ⟨Tryz.f111.name, by decide, Tryz.func111.trans (congrArg some (by kernel_rfl))⟩
  f10 := ⟨Tryz.f89.name, by decide, Tryz.func89.trans (congrArg some (by kernel_rfl))⟩
  t0 := Tryz.underlying0
  a0 := Tryz.isAgg0
  z0 := Tryz.sizeOf0
  v0 := Tryz.zeroValue0
  t3 := Tryz.underlying3
  a3 := Tryz.isAgg3
  z3 := Tryz.sizeOf3
  v3 := Tryz.zeroValue3
  t4 := Tryz.underlying4
  a4 := Tryz.isAgg4
  z4 := Tryz.sizeOf4
  v4 := Tryz.zeroValue4
  t22 := Tryz.underlying44
  a22 := Tryz.isAgg44
  z22 := Tryz.sizeOf44
  v22 := Tryz.zeroValue44
  a23 := Tryz.isAgg9
  z23 := Tryz.sizeOf9
  t25 := Tryz.underlying134
  a25 := Tryz.isAgg134
  z25 := Tryz.sizeOf134
  v25 := Tryz.zeroValue134 }
end Go.Proofs
end
section
namespace Go.Proofs.YteggaepppahefaaGreat
open Go Go.K

theorem repeatL_zero : ∀ n : Nat, Lib.repeatL [0] n = List.replicate n 0
  | 0 => rfl
  | n + 1 => by
    have := repeatL_zero n
    simp only [Lib.repeatL, List.replicate_succ] at this ⊢
    first | (rw [this]; rfl) | simp [this]
theorem rep_spec (n : Nat) (hn : n ≤ 1000) (w : World) : K.Spec Tryz.prog F.strings_Repeat [.string ⟨#[0]⟩, .int .i64 (n : Nat)] w fun r w' => r = .string (str (List.replicate n 0)) ∧ Ext w w' :=
  (Tryz.strings_Repeat ⟨#[0]⟩ n w (by omega) (by show 1 * n ≤ _; omega)).mono fun e w' ⟨he, hb⟩ => ⟨_, he, by
    show Value.string ⟨(Lib.repeatL [0] n).toArray⟩ = _
    rw [repeatL_zero]; rfl, Ext.of_below hb⟩
abbrev BldT (B b : Nat) (s : ByteArray) (w : World) : Prop := Bld T.strings_Builder T.uint8 B b s w
abbrev WrT (B b : Nat) (w w' : World) : Prop := Wr T.uint8 B b w w'
theorem wr_spec {B b : Nat} {a : ByteArray} (s : ByteArray) (w : World) (h : BldT B b a w) (hl : a.size + s.size ≤ 100000000) : K.Spec Tryz.prog F.strings_Builder_WriteString [.pointer (some ⟨b, 0, none⟩), .string s] w fun _ w' => BldT B b (a ++ s) w' ∧ WrT B b w w' :=
  (Tryz.Builder_WriteString_k B b _ s w h.2 (by
    rw [Lib.byteCells_length, Array.length_toList]
    have : a.data.size = a.size := rfl
    omega) h.1).mono fun e w' ⟨he, h1, h2, h3⟩ => ⟨_, he, ⟨Nat.le_trans h.1 h2.size, .inr (by rw [← byteCells_append]; exact h1)⟩, h2, h3⟩
theorem bstr_spec {B b : Nat} {a : ByteArray} (w : World) (h : BldT B b a w) : K.Spec Tryz.prog F.strings_Builder_String [.pointer (some ⟨b, 0, none⟩)] w fun r w' => r = .string a ∧ BldT B b a w' ∧ WrT B b w w' :=
  (Tryz.Builder_String_any_k B b _ w h.2 h.1).mono fun e w' ⟨he, h1, h2, h3⟩ => ⟨_, he, rfl, ⟨Nat.le_trans h.1 h2.size, h1⟩, h2, h3⟩
attribute [local irreducible] regK codeK retK KOp.wp K.Spec leS vnS str
theorem base_spec (w : World) : K.Spec Tryz.prog F.tx_base [] w fun r w' => r = baseP.val ∧ Ext w w' := by
  refine s_tx_base rfl ?_
  unfold k_tx_base
  refine ox ?_
  repeat' (first|(first|refine go1 ?_|refine zg (fun _ _=>?_)|refine zi (fun _ _=>?_))|refine zH (fun b w1 x1 a1 hb => ?_)|(refine zC rfl (rep_spec 32 (by decide) _) ?_;rintro _ w2 ⟨rfl, x2⟩)|refine st_setN (vs := baseP.cs) (Ext.trans x1 x2) hb (a1.ext x2) rfl rfl rfl rfl rfl (fun w5 x5 c5 a5 r5 => ?_))
  exact x_ret (ret1 (rv_cell r5 rfl rfl)) ⟨rfl, x5⟩
/-- What a function value answers, of what lies in a list. -/
def Tells {α : Type} (g : FuncId) (capl : List Value) (E : R α) (val : List Value → Value) (M : List Nat) (w : World) (l : List α) (p : α → Bool) : Prop :=
  ∀ x ∈ l, ∀ w' cs, Ext w w' → E.rel M w' cs x → K.Spec Tryz.prog g (val cs :: capl) w' fun r w'' => r = .bool (p x) ∧ Ext w' w''
end Go.Proofs.YteggaepppahefaaGreat
end
section
namespace Go.Proofs.YteggaepppahefaaGreat
open Go Go.K
attribute [local irreducible] regK codeK retK KOp.wp K.Spec leS vnS str

theorem idxIn_spec {M : List Nat} {v : Value} {l : List TIn} {g : FuncId} {capl : List Value} {p : TIn → Bool} (w : World) (hb : hasBody Tryz.prog g = true) (hs : SlR inR M w v l) (hn : l.length ≤ 1000000000000) (hp : Tells g capl inR (fun cs => .agg cs.toArray) M w l p) :
    K.Spec Tryz.prog F.slices_IndexFunc_L_api_In_api_In [v, .func (.func g) #[] capl.toArray] w fun r w' => r = .int .i64 (idxOf p l) ∧ Ext w w' := by
  refine s_slices_IndexFunc_L_api_In_api_In rfl ?_
  unfold k_slices_IndexFunc_L_api_In_api_In
  refine ox ?_
  repeat' (first|(first|refine go1 ?_|refine zg (fun _ _=>?_)|refine zi (fun _ _=>?_))|refine zG rfl hs ?_|(refine c_loopV (fun (i : Nat) w' => Ext w w' ∧ i ≤ l.length ∧ ∀ j, j < i → ∀ h : j < l.length, p l[j] = false) (fun i => [(0, v), (1, .func (.func g) #[] capl.toArray), (6, v), (7, .int .i64 (l.length : Nat)), (8, .int .i64 i)]) (fun i => l.length - i) 0 ⟨rfl, rfl, rfl, rfl, rfl, trivial⟩ ⟨Ext.refl _, by omega, by omega⟩ ?_; rintro i ρ w1 ⟨x1, hi, hk⟩)|refine zL rfl (fun h => ?_) (fun h => ?_)|(refine st_elemR rfl rfl (hs.ext x1) rfl (by omega) (fun ad cs r1 he => ?_))|refine st_lN0 rfl r1 (by rw [inR.len he]; exact Nat.le_refl _) (List.take_of_length_le (by rw [inR.len he]; exact Nat.le_refl _)) ?_|(refine st_callV rfl hb rfl (hp _ (List.getElem_mem _) _ _ x1 he) ?_; rintro _ w2 ⟨rfl, x2⟩)|refine zM rfl (fun h2 => ?_) (fun h2 => ?_))
  · exact x_ret rfl ⟨congrArg (Value.int .i64) (idxOf_hit (by omega) h2 (fun j hj => hk j hj (by omega))).symm, by repeat (first | assumption | exact Ext.refl _ | refine Ext.trans ?_ (by assumption))⟩
  · refine ⟨i + 1, ⟨rfl, rfl, rfl, rfl, rfl, trivial⟩, ⟨x1.trans x2, by omega, fun j hj hl => ?_⟩, by omega⟩
    by_cases hji : j = i
    · subst hji; exact h2
    · exact hk j (by omega) hl
  · exact x_ret rfl ⟨congrArg (Value.int .i64) (idxOf_miss (fun j hj => hk j (by omega) hj)).symm, x1⟩
theorem idxIn_any {M : List Nat} {v : Value} {l : List TIn} {g : FuncId} {capl : List Value} {p : TIn → Bool} (w : World) (hb : hasBody Tryz.prog g = true) (hs : SlR inR M w v l) (hn : l.length ≤ 1000000000000) (hp : Tells g capl inR (fun cs => .agg cs.toArray) M w l p) :
    K.Spec Tryz.prog F.slices_ContainsFunc_L_api_In_api_In [v, .func (.func g) #[] capl.toArray] w fun r w' => r = .bool (l.any p) ∧ Ext w w' := by
  refine s_slices_ContainsFunc_L_api_In_api_In rfl ?_
  unfold k_slices_ContainsFunc_L_api_In_api_In
  refine ox ?_
  repeat' (first|(first|refine go1 ?_|refine zg (fun _ _=>?_)|refine zi (fun _ _=>?_))|(refine zC rfl (idxIn_spec _ hb hs hn hp) ?_; rintro _ w2 ⟨rfl, x2⟩))
  exact x_ret rfl ⟨congrArg Value.bool idxOf_any, x2⟩
theorem idxOut_spec {M : List Nat} {v : Value} {l : List TOut} {g : FuncId} {capl : List Value} {p : TOut → Bool} (w : World) (hb : hasBody Tryz.prog g = true) (hs : SlR outR M w v l) (hn : l.length ≤ 1000000000000) (hp : Tells g capl outR (fun cs => .agg cs.toArray) M w l p) :
    K.Spec Tryz.prog F.slices_IndexFunc_L_api_Out_api_Out [v, .func (.func g) #[] capl.toArray] w fun r w' => r = .int .i64 (idxOf p l) ∧ Ext w w' := by
  refine s_slices_IndexFunc_L_api_Out_api_Out rfl ?_
  unfold k_slices_IndexFunc_L_api_Out_api_Out
  refine ox ?_
  repeat' (first|(first|refine go1 ?_|refine zg (fun _ _=>?_)|refine zi (fun _ _=>?_))|refine zG rfl hs ?_|(refine c_loopV (fun (i : Nat) w' => Ext w w' ∧ i ≤ l.length ∧ ∀ j, j < i → ∀ h : j < l.length, p l[j] = false) (fun i => [(0, v), (1, .func (.func g) #[] capl.toArray), (6, v), (7, .int .i64 (l.length : Nat)), (8, .int .i64 i)]) (fun i => l.length - i) 0 ⟨rfl, rfl, rfl, rfl, rfl, trivial⟩ ⟨Ext.refl _, by omega, by omega⟩ ?_; rintro i ρ w1 ⟨x1, hi, hk⟩)|refine zL rfl (fun h => ?_) (fun h => ?_)|(refine st_elemR rfl rfl (hs.ext x1) rfl (by omega) (fun ad cs r1 he => ?_))|refine st_lN0 rfl r1 (by rw [outR.len he]; exact Nat.le_refl _) (List.take_of_length_le (by rw [outR.len he]; exact Nat.le_refl _)) ?_|(refine st_callV rfl hb rfl (hp _ (List.getElem_mem _) _ _ x1 he) ?_; rintro _ w2 ⟨rfl, x2⟩)|refine zM rfl (fun h2 => ?_) (fun h2 => ?_))
  · exact x_ret rfl ⟨congrArg (Value.int .i64) (idxOf_hit (by omega) h2 (fun j hj => hk j hj (by omega))).symm, by repeat (first | assumption | exact Ext.refl _ | refine Ext.trans ?_ (by assumption))⟩
  · refine ⟨i + 1, ⟨rfl, rfl, rfl, rfl, rfl, trivial⟩, ⟨x1.trans x2, by omega, fun j hj hl => ?_⟩, by omega⟩
    by_cases hji : j = i
    · subst hji; exact h2
    · exact hk j (by omega) hl
  · exact x_ret rfl ⟨congrArg (Value.int .i64) (idxOf_miss (fun j hj => hk j (by omega) hj)).symm, x1⟩
theorem idxOut_any {M : List Nat} {v : Value} {l : List TOut} {g : FuncId} {capl : List Value} {p : TOut → Bool} (w : World) (hb : hasBody Tryz.prog g = true) (hs : SlR outR M w v l) (hn : l.length ≤ 1000000000000) (hp : Tells g capl outR (fun cs => .agg cs.toArray) M w l p) :
    K.Spec Tryz.prog F.slices_ContainsFunc_L_api_Out_api_Out [v, .func (.func g) #[] capl.toArray] w fun r w' => r = .bool (l.any p) ∧ Ext w w' := by
  refine s_slices_ContainsFunc_L_api_Out_api_Out rfl ?_
  unfold k_slices_ContainsFunc_L_api_Out_api_Out
  refine ox ?_
  repeat' (first|(first|refine go1 ?_|refine zg (fun _ _=>?_)|refine zi (fun _ _=>?_))|(refine zC rfl (idxOut_spec _ hb hs hn hp) ?_; rintro _ w2 ⟨rfl, x2⟩))
  exact x_ret rfl ⟨congrArg Value.bool idxOf_any, x2⟩
theorem idxStr_spec {M : List Nat} {v : Value} {l : List ByteArray} {g : FuncId} {capl : List Value} {p : ByteArray → Bool} (w : World) (hb : hasBody Tryz.prog g = true) (hs : SlR strR M w v l) (hn : l.length ≤ 1000000000000) (hp : Tells g capl strR (fun cs => cs.headD undef) M w l p) :
    K.Spec Tryz.prog F.slices_IndexFunc_L_string_string [v, .func (.func g) #[] capl.toArray] w fun r w' => r = .int .i64 (idxOf p l) ∧ Ext w w' := by
  refine s_slices_IndexFunc_L_string_string rfl ?_
  unfold k_slices_IndexFunc_L_string_string
  refine ox ?_
  repeat' (first|(first|refine go1 ?_|refine zg (fun _ _=>?_)|refine zi (fun _ _=>?_))|refine zG rfl hs ?_|(refine c_loopV (fun (i : Nat) w' => Ext w w' ∧ i ≤ l.length ∧ ∀ j, j < i → ∀ h : j < l.length, p l[j] = false) (fun i => [(0, v), (1, .func (.func g) #[] capl.toArray), (6, v), (7, .int .i64 (l.length : Nat)), (8, .int .i64 i)]) (fun i => l.length - i) 0 ⟨rfl, rfl, rfl, rfl, rfl, trivial⟩ ⟨Ext.refl _, by omega, by omega⟩ ?_; rintro i ρ w1 ⟨x1, hi, hk⟩)|refine zL rfl (fun h => ?_) (fun h => ?_)|(refine st_elemR rfl rfl (hs.ext x1) rfl (by omega) (fun ad cs r1 he => ?_); have hq : cs = [Value.string l[i]] := he; rw [hq] at r1 he)|refine st_lN0 rfl r1 (by rw [strR.len he]; exact Nat.le_refl _) (List.take_of_length_le (by rw [strR.len he]; exact Nat.le_refl _)) ?_|(refine st_callV rfl hb rfl (hp _ (List.getElem_mem _) _ _ x1 he) ?_; rintro _ w2 ⟨rfl, x2⟩)|refine zM rfl (fun h2 => ?_) (fun h2 => ?_))
  · exact x_ret rfl ⟨congrArg (Value.int .i64) (idxOf_hit (by omega) h2 (fun j hj => hk j hj (by omega))).symm, by repeat (first | assumption | exact Ext.refl _ | refine Ext.trans ?_ (by assumption))⟩
  · refine ⟨i + 1, ⟨rfl, rfl, rfl, rfl, rfl, trivial⟩, ⟨x1.trans x2, by omega, fun j hj hl => ?_⟩, by omega⟩
    by_cases hji : j = i
    · subst hji; exact h2
    · exact hk j (by omega) hl
  · exact x_ret rfl ⟨congrArg (Value.int .i64) (idxOf_miss (fun j hj => hk j (by omega) hj)).symm, x1⟩
theorem idxStr_any {M : List Nat} {v : Value} {l : List ByteArray} {g : FuncId} {capl : List Value} {p : ByteArray → Bool} (w : World) (hb : hasBody Tryz.prog g = true) (hs : SlR strR M w v l) (hn : l.length ≤ 1000000000000) (hp : Tells g capl strR (fun cs => cs.headD undef) M w l p) :
    K.Spec Tryz.prog F.slices_ContainsFunc_L_string_string [v, .func (.func g) #[] capl.toArray] w fun r w' => r = .bool (l.any p) ∧ Ext w w' := by
  refine s_slices_ContainsFunc_L_string_string rfl ?_
  unfold k_slices_ContainsFunc_L_string_string
  refine ox ?_
  repeat' (first|(first|refine go1 ?_|refine zg (fun _ _=>?_)|refine zi (fun _ _=>?_))|(refine zC rfl (idxStr_spec _ hb hs hn hp) ?_; rintro _ w2 ⟨rfl, x2⟩))
  exact x_ret rfl ⟨congrArg Value.bool idxOf_any, x2⟩
end Go.Proofs.YteggaepppahefaaGreat
end
