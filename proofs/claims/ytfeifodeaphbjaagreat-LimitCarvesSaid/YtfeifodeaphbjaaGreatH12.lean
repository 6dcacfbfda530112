/- The engine, part 14: short names of steps; facts carried on. Plain: amounts; words of 32 bits. Plain: points, coins, the order of points, the limits. -/
import Derived.Lib.Bytealg
import Derived.Test.YtfeifodeaphbjaaGreatH11
set_option linter.unusedVariables false
set_option linter.unusedSimpArgs false
section
namespace Go.K
open Go
theorem SlE.x {α : Type} {E : Enc α} {w w' : World} {v : Value} {l : List α} (c : Ext w w') (h : SlE E w v l) : SlE E w' v l := h.ext c
theorem SlR.x {α : Type} {E : R α} {M : List Nat} {w w' : World} {v : Value} {l : List α} (c : Ext w w') (h : SlR E M w v l) : SlR E M w' v l := h.ext c
theorem OwnR.x {α : Type} {E : R α} {t : TypeId} {B : Nat} {M : List Nat} {w w' : World} {v : Value} {l : List α} (c : Ext w w') (h : OwnR E t B M w v l) : OwnR E t B M w' v l := h.ext c
theorem R.x {α : Type} {E : R α} {M : List Nat} {w w' : World} {cs : List Value} {x : α} (c : Ext w w') (h : E.rel M w cs x) : E.rel M w' cs x := E.step h c (by simp) (fun _ h => .inl h)
theorem MapR.x {κ β : Type} [DecidableEq κ] {KE : KEnc κ} {F : R β} {M : List Nat} {w w' : World} {b : Nat} {m : List (κ × β)} (c : Ext w w') (h : MapR KE F M w b m) : MapR KE F M w' b m := h.ext c
theorem Ext.c {w w' w'' : World} (c : Ext w' w'') (h : Ext w w') : Ext w w'' := h.trans c
theorem le_x {w w' : World} {n : Nat} (c : Ext w w') (h : n ≤ w.heap.size) : n ≤ w'.heap.size := Nat.le_trans h c.size
section
variable {P : Program} {d : Option Tmp} {r : KR} {K : Env → World → Prop} {ρ : Env} {w : World}
theorem g_onT {o : KOp} {t : Tmp} {b : Bool} (h : ρ t = .bool b) (k : regK P (.cons ⟨d, o, none⟩ r) K ρ w) : regK P (.cons ⟨d, o, some (t, b)⟩ r) K ρ w := g_on (by simp [wantK, h]) k
theorem g_offT {o : KOp} {t : Tmp} {b c : Bool} (h : ρ t = .bool c) (hc : (c == b) = false) (k : regK P r K (put ρ d undef) w) : regK P (.cons ⟨d, o, some (t, b)⟩ r) K ρ w := g_off (by simp [wantK, h, hc]) k
theorem g_offU {o : KOp} {t : Tmp} {b : Bool} (h : ρ t = undef) (k : regK P r K (put ρ d undef) w) : regK P (.cons ⟨d, o, some (t, b)⟩ r) K ρ w := g_off (by simp [wantK, h, undef]) k
end
/-! Short names. -/
abbrev z0 := @st_move
abbrev z1 := @st_end
abbrev z2 := @g_on
abbrev z3 := @g_off
abbrev z4 := @st_min
abbrev z5 := @st_add
abbrev z6 := @st_sub
abbrev z7 := @st_fix
abbrev z8 := @st_ld0
abbrev z9 := @st_ld1
abbrev za := @st_ld2
abbrev zb := @st_ld3
abbrev zc := @st_lN0
abbrev zd := @st_lN1
abbrev ze := @st_lN2
abbrev zf := @c_sreg
abbrev zg := @c_sregd
abbrev zh := @c_reg
abbrev zi := @c_regd
abbrev zj := @c_seq
abbrev zk := @c_block
abbrev zl := @c_skip
abbrev zm := @c_ret
abbrev zn := @c_exit
abbrev zo := @x_then
abbrev zp := @x_then_ret
abbrev zq := @x_then_exit
abbrev zr := @x_block
abbrev zs := @x_block_ret
abbrev zt := @x_block_exit
abbrev zu := @x_block_other
abbrev zv := @x_loop
abbrev zw := @x_loop_ret
abbrev zx := @x_loop_exit
abbrev zy := @c_true
abbrev zz := @c_false
abbrev zA := @st_join
abbrev zB := @st_both
abbrev zC := @st_call
abbrev zD := @st_box
abbrev zE := @st_local
abbrev zF := @st_pc
abbrev zG := @st_lenR
abbrev zH := @st_alloc
abbrev zI := @st_buildSlice
abbrev zJ := @g_split
abbrev zK := @g_cases
abbrev zL := @c_cond
abbrev zM := @c_condB
abbrev zN := @c_condN
abbrev zO := @g_onT
abbrev zP := @g_offT
abbrev zQ := @g_offU
end Go.K
end
section
namespace Go.K
open Go
/-! Amounts. -/
def goodB (a : Int) : Bool := decide (0 ≤ a ∧ a ≤ 2100000000000000)
theorem goodB_iff (a : Int) : goodB a = true ↔ 0 ≤ a ∧ a ≤ 2100000000000000 := by simp [goodB]
def addOk (a b : Int) : Bool := goodB a && goodB b && goodB (a + b)
/-! Words. -/
abbrev W32 := BitVec 32
def u32 (x : W32) : Value := .int .u32 (x.toNat : Nat)
theorem wrap32 (m : Int) : IntKind.u32.wrap m = m % 4294967296 := rfl
theorem ofInt_nat (x : W32) : BitVec.ofInt 32 (x.toNat : Nat) = x := by
  apply BitVec.eq_of_toNat_eq
  simp [BitVec.toNat_ofInt]
theorem w32_bin {op : BinOp} {a b : W32} {c : W32} (h : intBin op .u32 (a.toNat : Nat) (b.toNat : Nat) = some (.int .u32 (c.toNat : Nat))) (hs : isShift op = false) : binVal op (u32 a) (u32 b) = some (u32 c) := by
  simp only [u32, binVal, hs, Bool.false_eq_true, if_false, if_true]; exact h
theorem wrap_nat (c : W32) : IntKind.u32.wrap (c.toNat : Nat) = (c.toNat : Nat) := by
  rw [wrap32]; exact Int.emod_eq_of_lt (by omega) (by have := c.isLt; omega)
theorem w32_add (a b : W32) : binVal .add (u32 a) (u32 b) = some (u32 (a + b)) := w32_bin (by
  simp only [intBin, wrap32, BitVec.toNat_add]
  exact congrArg some (congrArg (Value.int .u32) (by omega))) rfl
theorem w32_and (a b : W32) : binVal .and (u32 a) (u32 b) = some (u32 (a &&& b)) := w32_bin (by
  simp only [intBin, IntKind.bits]; rw [ofInt_nat, ofInt_nat]
  exact congrArg some (congrArg (Value.int .u32) (wrap_nat (a &&& b)))) rfl
theorem w32_or (a b : W32) : binVal .or (u32 a) (u32 b) = some (u32 (a ||| b)) := w32_bin (by
  simp only [intBin, IntKind.bits]; rw [ofInt_nat, ofInt_nat]
  exact congrArg some (congrArg (Value.int .u32) (wrap_nat (a ||| b)))) rfl
theorem w32_xor (a b : W32) : binVal .xor (u32 a) (u32 b) = some (u32 (a ^^^ b)) := w32_bin (by
  simp only [intBin, IntKind.bits]; rw [ofInt_nat, ofInt_nat]
  exact congrArg some (congrArg (Value.int .u32) (wrap_nat (a ^^^ b)))) rfl
theorem w32_shr (a : W32) (k : IntKind) (n : Nat) (h : n < 32) : binVal .shr (u32 a) (.int k (n : Nat)) = some (u32 (a >>> n)) := by
  simp only [u32, binVal, isShift, if_true]
  rw [if_neg (by omega)]
  have e : min ((n : Int).toNat) IntKind.u32.bits = n := by simp [IntKind.bits]; omega
  simp only [e, BitVec.toNat_ushiftRight, Nat.shiftRight_eq_div_pow]
  congr 2
  rw [Int.fdiv_eq_ediv_of_nonneg _ (by exact_mod_cast Nat.zero_le _)]
  norm_cast
theorem w32_shl (a : W32) (k : IntKind) (n : Nat) (h : n < 32) : binVal .shl (u32 a) (.int k (n : Nat)) = some (u32 (a <<< n)) := by
  simp only [u32, binVal, isShift, if_true]
  rw [if_neg (by omega)]
  have e : min ((n : Int).toNat) IntKind.u32.bits = n := by simp [IntKind.bits]; omega
  simp only [e, BitVec.toNat_shiftLeft, Nat.shiftLeft_eq, wrap32]
  congr 2
def rot (x : W32) (n : Nat) : W32 := x >>> n ||| x <<< (32 - n)
theorem neg_and (n : Nat) (h0 : 0 < n) (h : n < 32) : binVal .and (.int .u64 (IntKind.u64.wrap (-(n : Int)))) (.int .u64 31) = some (.int .u64 ((32 - n : Nat) : Int)) := by
  have key : ∀ n : Nat, n < 32 → 0 < n → IntKind.u64.wrap (BitVec.ofInt 64 (IntKind.u64.wrap (-(n : Int))) &&& BitVec.ofInt 64 31).toNat = ((32 - n : Nat) : Int) := by decide +kernel
  simp only [binVal, isShift, Bool.false_eq_true, if_false, if_true, intBin, IntKind.bits]
  exact congrArg some (congrArg (Value.int .u64) (key n h h0))
end Go.K
end
section
namespace Go.K
open Go

/-! Points and coins. -/
structure Pt where
  s : ByteArray
  i : Int
deriving DecidableEq
structure Cn where
  v : Int
  s : ByteArray
  h : Int
deriving DecidableEq
instance : Inhabited Pt := ⟨⟨⟨#[]⟩, 0⟩⟩
instance : Inhabited Cn := ⟨⟨0, ⟨#[]⟩, 0⟩⟩
def Pt.cs (p : Pt) : List Value := [.string p.s, .int .u32 p.i]
def Pt.val (p : Pt) : Value := .agg #[.string p.s, .int .u32 p.i]
def Cn.cs (c : Cn) : List Value := [.int .i64 c.v, .string c.s, .int .i64 c.h]
def Cn.val (c : Cn) : Value := .agg #[.int .i64 c.v, .string c.s, .int .i64 c.h]
def formedB (p : Pt) (c : Cn) : Bool := decide (p.s.size = 32) && decide (0 ≤ c.h) && decide (c.h ≤ 1000000) && goodB c.v

/-! The order of byte strings. -/
theorem bl_irrefl : ∀ a : List UInt8, Op.bytesLess a a = false
  | [] => rfl
  | a :: l => by simp [Op.bytesLess, bl_irrefl l]
theorem bl_trans : ∀ a b c : List UInt8, Op.bytesLess a b = true → Op.bytesLess b c = true → Op.bytesLess a c = true
  | _, [], _, h, _ => by cases ‹List UInt8› <;> simp [Op.bytesLess] at h
  | _, _ :: _, [], _, h => by simp [Op.bytesLess] at h
  | [], _ :: _, _ :: _, _, _ => by simp [Op.bytesLess]
  | a :: x, b :: y, c :: z, h, h' => by
    simp only [Op.bytesLess, Bool.or_eq_true, decide_eq_true_eq, Bool.and_eq_true, beq_iff_eq] at h h' ⊢
    rcases h with h | ⟨rfl, h⟩
    · rcases h' with h' | ⟨rfl, h'⟩
      · exact .inl (UInt8.lt_trans h h')
      · exact .inl h
    · rcases h' with h' | ⟨rfl, h'⟩
      · exact .inl h'
      · exact .inr ⟨rfl, bl_trans x y z h h'⟩
theorem bl_tri : ∀ a b : List UInt8, Op.bytesLess a b = false → Op.bytesLess b a = false → a = b
  | [], [], _, _ => rfl
  | [], _ :: _, h, _ => by simp [Op.bytesLess] at h
  | _ :: _, [], _, h => by simp [Op.bytesLess] at h
  | a :: x, b :: y, h, h' => by
    simp only [Op.bytesLess, Bool.or_eq_false_iff, decide_eq_false_iff_not, Bool.and_eq_false_iff, beq_eq_false_iff_ne] at h h'
    have e : a = b := by
      have h1 := h.1; have h2 := h'.1
      rw [UInt8.lt_iff_toNat_lt] at h1 h2
      exact UInt8.toNat_inj.1 (by omega)
    subst e
    rcases h.2 with h1 | h1
    · exact absurd rfl h1
    rcases h'.2 with h2 | h2
    · exact absurd rfl h2
    rw [bl_tri x y h1 h2]
theorem cmpB_lt : ∀ a b : List UInt8, Lib.compareBytes a b < 0 ↔ Op.bytesLess a b = true
  | [], [] => by simp [Lib.compareBytes, Op.bytesLess]
  | [], _ :: _ => by simp [Lib.compareBytes, Op.bytesLess]
  | _ :: _, [] => by simp [Lib.compareBytes, Op.bytesLess]
  | a :: x, b :: y => by
    simp only [Lib.compareBytes, Op.bytesLess]
    by_cases h1 : a < b
    · simp [h1]
    · by_cases h2 : b < a
      · have h3 : ¬ a = b := fun e => by subst e; exact h1 h2
        simp [h1, h2, h3]
      · have e : a = b := by
          rw [UInt8.lt_iff_toNat_lt] at h1 h2
          exact UInt8.toNat_inj.1 (by omega)
        subst e
        simp [cmpB_lt x y, UInt8.lt_irrefl]
theorem cmpB_eq : ∀ a b : List UInt8, Lib.compareBytes a b = 0 ↔ a = b
  | [], [] => by simp [Lib.compareBytes]
  | [], _ :: _ => by simp [Lib.compareBytes]
  | _ :: _, [] => by simp [Lib.compareBytes]
  | a :: x, b :: y => by
    simp only [Lib.compareBytes]
    by_cases h1 : a < b
    · have h3 : ¬ a = b := fun e => by subst e; exact UInt8.lt_irrefl _ h1
      simp [h1, h3]
    · by_cases h2 : b < a
      · have h3 : ¬ a = b := fun e => by subst e; exact h1 h2
        simp [h1, h2, h3]
      · have e : a = b := by
          rw [UInt8.lt_iff_toNat_lt] at h1 h2
          exact UInt8.toNat_inj.1 (by omega)
        subst e
        simp [cmpB_eq x y, UInt8.lt_irrefl]
theorem data_toList (a : ByteArray) : a.data.toList = a.toList := (Lib.toList_data a).symm
theorem toList_inj {a b : ByteArray} (h : a.toList = b.toList) : a = b := by
  rw [← data_toList, ← data_toList] at h
  exact ByteArray.ext (Array.toList_inj.1 h)

/-- The order of points. -/
def ptLt (p q : Pt) : Bool := if p.s = q.s then decide (p.i < q.i) else Op.bytesLess p.s.toList q.s.toList
theorem ptLt_irrefl (p : Pt) : ptLt p p = false := by simp [ptLt]
theorem ptLt_trans {p q r : Pt} (h : ptLt p q = true) (h' : ptLt q r = true) : ptLt p r = true := by
  unfold ptLt at *
  by_cases h1 : p.s = q.s
  · rw [if_pos h1] at h
    by_cases h2 : q.s = r.s
    · rw [if_pos h2] at h'
      rw [if_pos (h1.trans h2)]
      simp at h h' ⊢; omega
    · rw [if_neg h2] at h'
      rw [if_neg (by rw [h1]; exact h2), h1]; exact h'
  · rw [if_neg h1] at h
    by_cases h2 : q.s = r.s
    · rw [if_neg (by rw [← h2]; exact h1), ← h2]; exact h
    · rw [if_neg h2] at h'
      have h3 := bl_trans _ _ _ h h'
      by_cases h4 : p.s = r.s
      · rw [h4, bl_irrefl] at h3; cases h3
      · rw [if_neg h4]; exact h3
theorem ptLt_tri {p q : Pt} (h : ptLt p q = false) (h' : ptLt q p = false) : p = q := by
  unfold ptLt at *
  by_cases h1 : p.s = q.s
  · rw [if_pos h1] at h; rw [if_pos h1.symm] at h'
    simp at h h'
    cases p; cases q; simp only [Pt.mk.injEq] at *; exact ⟨h1, by omega⟩
  · rw [if_neg h1] at h; rw [if_neg (fun e => h1 e.symm)] at h'
    exact absurd (toList_inj (bl_tri _ _ h h')) h1
theorem ptLt_asymm {p q : Pt} (h : ptLt p q = true) : ptLt q p = false := by
  cases h' : ptLt q p
  · rfl
  · have := ptLt_trans h h'; rw [ptLt_irrefl] at this; cases this
def cmpI (a b : Int) : Int := if a < b then -1 else if b < a then 1 else 0
def orI (a b : Int) : Int := if a = 0 then b else a
/-- The shared order of the program reads the same. -/
theorem or_lt (p q : Pt) : decide (orI (Lib.compareBytes p.s.data.toList q.s.data.toList) (cmpI p.i q.i) < 0) = ptLt p q := by
  unfold orI ptLt
  rw [data_toList, data_toList]
  by_cases h : p.s = q.s
  · rw [if_pos h, if_pos ((cmpB_eq _ _).2 (by rw [h]))]
    unfold cmpI
    by_cases h1 : p.i < q.i
    · simp [h1]
    · by_cases h2 : q.i < p.i <;> simp [h1, h2]
  · rw [if_neg h, if_neg (fun e => h (toList_inj ((cmpB_eq _ _).1 e)))]
    apply Bool.eq_iff_iff.2
    simp only [decide_eq_true_eq]
    exact cmpB_lt _ _
end Go.K
end
