/- Plain: points, coins, the order of points, the limits. -/
import Derived.Test.YtfpdfjfjmockbaaK11
import Derived.Lib.Bytealg
namespace Go.K
open Go

/-! Amounts. -/
def goodB (a : Int) : Bool := decide (0 ≤ a ∧ a ≤ 2100000000000000)
theorem goodB_iff (a : Int) : goodB a = true ↔ 0 ≤ a ∧ a ≤ 2100000000000000 := by simp [goodB]
def addOk (a b : Int) : Bool := goodB a && goodB b && goodB (a + b)

/-! Points and coins. -/
structure Pt where
  s : ByteArray
  i : Int
deriving DecidableEq
structure Cn where
  v : Int
  s : ByteArray
  h : Int
deriving DecidableEq
instance : Inhabited Pt := ⟨⟨⟨#[]⟩, 0⟩⟩
instance : Inhabited Cn := ⟨⟨0, ⟨#[]⟩, 0⟩⟩
def Pt.cs (p : Pt) : List Value := [.string p.s, .int .u32 p.i]
def Pt.val (p : Pt) : Value := .agg #[.string p.s, .int .u32 p.i]
def Cn.cs (c : Cn) : List Value := [.int .i64 c.v, .string c.s, .int .i64 c.h]
def Cn.val (c : Cn) : Value := .agg #[.int .i64 c.v, .string c.s, .int .i64 c.h]
def formedB (p : Pt) (c : Cn) : Bool := decide (p.s.size = 32) && decide (0 ≤ c.h) && decide (c.h ≤ 1000000) && goodB c.v

/-! The order of byte strings. -/
theorem bl_irrefl : ∀ a : List UInt8, Op.bytesLess a a = false
  | [] => rfl
  | a :: l => by simp [Op.bytesLess, bl_irrefl l]
theorem bl_trans : ∀ a b c : List UInt8, Op.bytesLess a b = true → Op.bytesLess b c = true → Op.bytesLess a c = true
  | _, [], _, h, _ => by cases ‹List UInt8› <;> simp [Op.bytesLess] at h
  | _, _ :: _, [], _, h => by simp [Op.bytesLess] at h
  | [], _ :: _, _ :: _, _, _ => by simp [Op.bytesLess]
  | a :: x, b :: y, c :: z, h, h' => by
    simp only [Op.bytesLess, Bool.or_eq_true, decide_eq_true_eq, Bool.and_eq_true, beq_iff_eq] at h h' ⊢
    rcases h with h | ⟨rfl, h⟩
    · rcases h' with h' | ⟨rfl, h'⟩
      · exact .inl (UInt8.lt_trans h h')
      · exact .inl h
    · rcases h' with h' | ⟨rfl, h'⟩
      · exact .inl h'
      · exact .inr ⟨rfl, bl_trans x y z h h'⟩
theorem bl_tri : ∀ a b : List UInt8, Op.bytesLess a b = false → Op.bytesLess b a = false → a = b
  | [], [], _, _ => rfl
  | [], _ :: _, h, _ => by simp [Op.bytesLess] at h
  | _ :: _, [], _, h => by simp [Op.bytesLess] at h
  | a :: x, b :: y, h, h' => by
    simp only [Op.bytesLess, Bool.or_eq_false_iff, decide_eq_false_iff_not, Bool.and_eq_false_iff, beq_eq_false_iff_ne] at h h'
    have e : a = b := by
      have h1 := h.1; have h2 := h'.1
      rw [UInt8.lt_iff_toNat_lt] at h1 h2
      exact UInt8.toNat_inj.1 (by omega)
    subst e
    rcases h.2 with h1 | h1
    · exact absurd rfl h1
    rcases h'.2 with h2 | h2
    · exact absurd rfl h2
    rw [bl_tri x y h1 h2]
theorem cmpB_lt : ∀ a b : List UInt8, Lib.compareBytes a b < 0 ↔ Op.bytesLess a b = true
  | [], [] => by simp [Lib.compareBytes, Op.bytesLess]
  | [], _ :: _ => by simp [Lib.compareBytes, Op.bytesLess]
  | _ :: _, [] => by simp [Lib.compareBytes, Op.bytesLess]
  | a :: x, b :: y => by
    simp only [Lib.compareBytes, Op.bytesLess]
    by_cases h1 : a < b
    · simp [h1]
    · by_cases h2 : b < a
      · have h3 : ¬ a = b := fun e => by subst e; exact h1 h2
        simp [h1, h2, h3]
      · have e : a = b := by
          rw [UInt8.lt_iff_toNat_lt] at h1 h2
          exact UInt8.toNat_inj.1 (by omega)
        subst e
        simp [cmpB_lt x y, UInt8.lt_irrefl]
theorem cmpB_eq : ∀ a b : List UInt8, Lib.compareBytes a b = 0 ↔ a = b
  | [], [] => by simp [Lib.compareBytes]
  | [], _ :: _ => by simp [Lib.compareBytes]
  | _ :: _, [] => by simp [Lib.compareBytes]
  | a :: x, b :: y => by
    simp only [Lib.compareBytes]
    by_cases h1 : a < b
    · have h3 : ¬ a = b := fun e => by subst e; exact UInt8.lt_irrefl _ h1
      simp [h1, h3]
    · by_cases h2 : b < a
      · have h3 : ¬ a = b := fun e => by subst e; exact h1 h2
        simp [h1, h2, h3]
      · have e : a = b := by
          rw [UInt8.lt_iff_toNat_lt] at h1 h2
          exact UInt8.toNat_inj.1 (by omega)
        subst e
        simp [cmpB_eq x y, UInt8.lt_irrefl]
theorem data_toList (a : ByteArray) : a.data.toList = a.toList := (Lib.toList_data a).symm
theorem toList_inj {a b : ByteArray} (h : a.toList = b.toList) : a = b := by
  rw [← data_toList, ← data_toList] at h
  exact ByteArray.ext (Array.toList_inj.1 h)

/-- The order of points. -/
def ptLt (p q : Pt) : Bool := if p.s = q.s then decide (p.i < q.i) else Op.bytesLess p.s.toList q.s.toList
theorem ptLt_irrefl (p : Pt) : ptLt p p = false := by simp [ptLt]
theorem ptLt_trans {p q r : Pt} (h : ptLt p q = true) (h' : ptLt q r = true) : ptLt p r = true := by
  unfold ptLt at *
  by_cases h1 : p.s = q.s
  · rw [if_pos h1] at h
    by_cases h2 : q.s = r.s
    · rw [if_pos h2] at h'
      rw [if_pos (h1.trans h2)]
      simp at h h' ⊢; omega
    · rw [if_neg h2] at h'
      rw [if_neg (by rw [h1]; exact h2), h1]; exact h'
  · rw [if_neg h1] at h
    by_cases h2 : q.s = r.s
    · rw [if_neg (by rw [← h2]; exact h1), ← h2]; exact h
    · rw [if_neg h2] at h'
      have h3 := bl_trans _ _ _ h h'
      by_cases h4 : p.s = r.s
      · rw [h4, bl_irrefl] at h3; cases h3
      · rw [if_neg h4]; exact h3
theorem ptLt_tri {p q : Pt} (h : ptLt p q = false) (h' : ptLt q p = false) : p = q := by
  unfold ptLt at *
  by_cases h1 : p.s = q.s
  · rw [if_pos h1] at h; rw [if_pos h1.symm] at h'
    simp at h h'
    cases p; cases q; simp only [Pt.mk.injEq] at *; exact ⟨h1, by omega⟩
  · rw [if_neg h1] at h; rw [if_neg (fun e => h1 e.symm)] at h'
    exact absurd (toList_inj (bl_tri _ _ h h')) h1
theorem ptLt_asymm {p q : Pt} (h : ptLt p q = true) : ptLt q p = false := by
  cases h' : ptLt q p
  · rfl
  · have := ptLt_trans h h'; rw [ptLt_irrefl] at this; cases this
def cmpI (a b : Int) : Int := if a < b then -1 else if b < a then 1 else 0
def orI (a b : Int) : Int := if a = 0 then b else a
/-- The shared order of the program reads the same. -/
theorem or_lt (p q : Pt) : decide (orI (Lib.compareBytes p.s.data.toList q.s.data.toList) (cmpI p.i q.i) < 0) = ptLt p q := by
  unfold orI ptLt
  rw [data_toList, data_toList]
  by_cases h : p.s = q.s
  · rw [if_pos h, if_pos ((cmpB_eq _ _).2 (by rw [h]))]
    unfold cmpI
    by_cases h1 : p.i < q.i
    · simp [h1]
    · by_cases h2 : q.i < p.i <;> simp [h1, h2]
  · rw [if_neg h, if_neg (fun e => h (toList_inj ((cmpB_eq _ _).1 e)))]
    apply Bool.eq_iff_iff.2
    simp only [decide_eq_true_eq]
    exact cmpB_lt _ _
end Go.K
