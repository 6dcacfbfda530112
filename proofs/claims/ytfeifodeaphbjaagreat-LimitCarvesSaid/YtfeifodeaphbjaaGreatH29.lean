/- Plain: what a transaction is told by, and its size. Contracts: digests by the reference; ids and sizes of transactions. The engine, part 16: stores into elements of slices of the function's own; slices cut from their head on. -/
import Derived.Test.YtfeifodeaphbjaaGreatH28
set_option linter.unusedVariables false
set_option linter.unusedSimpArgs false
section
namespace Go.K
open Go
def idT (t : Tx) : ByteArray := sha2 (encT false t)
def weightT (t : Tx) : Nat := 3 * (encT false t).size + (encT (witB t) t).size
def sizeT (t : Tx) : Nat := (weightT t + 3) / 4
theorem idT_size (t : Tx) : (idT t).size = 32 := by unfold idT sha2; exact shaS_size _
theorem Tx.Sz.all {t : Tx} (h : t.Sz) (b : Bool) : (encT b t).size ≤ 3300000 := by
  have := h.e4 b
  rw [encT, ByteArray.size_append, leS_size]; omega
theorem Tx.Sz.weight {t : Tx} (h : t.Sz) : weightT t ≤ 13200000 := by
  have := h.all false; have := h.all (witB t)
  unfold weightT; omega
theorem Tx.Sz.size {t : Tx} (h : t.Sz) : sizeT t ≤ 3300001 := by
  have := h.weight
  unfold sizeT; omega
end Go.K
end
section
namespace Go.Proofs.YtfeifodeaphbjaaGreat
open Go Go.K
attribute [local irreducible] regK codeK retK KOp.wp K.Spec u32 leS vnS str zero32 wseq wCs schR schA blkW partW kTab rnds runP padL padZ addN shN outW catB leL shaS sha2 encT

section
variable {P : Program} {d : Option Tmp} {r : KR} {K : Env → World → Prop} {ρ : Env} {w : World}
theorem st_quo {x y : Operand} {n m : Nat} (hx : ev ρ x = .int .i64 (n : Nat)) (hy : ev ρ y = .int .i64 (m : Nat)) (h0 : 0 < m) (hn : n < 9223372036854775808) (k : regK P r K (put ρ d (.int .i64 ((n / m : Nat) : Int))) w) : regK P (.cons ⟨d, .bin .quo x y, none⟩ r) K ρ w :=
  st_bin hx hy (by
    have hne : (m : Int) ≠ 0 := by omega
    simp only [binVal, isShift, Bool.false_eq_true, if_false, if_true, intBin]
    rw [td, if_neg hne]
    have h1 : n / m ≤ n := Nat.div_le_self n m
    generalize n / m = q at h1 ⊢
    rw [IntWalk.i64_in _ (by omega)]) k
end
set_option maxHeartbeats 2000000 in
theorem rdig_spec (s : ByteArray) (hs : s.size ≤ 4000000) (w : World) : K.Spec Tryz.prog F.kedgeref04_Sum [.string s] w fun r w' => r = .string (shaS s) ∧ Ext w w' := by
  obtain ⟨N, hN⟩ : ∃ N, (padL s.data.toList).length = 64 * N := ⟨_, padL_len s⟩
  have hl := padL_le s
  generalize hm : padL s.data.toList = m at hN hl
  have hout : ∀ n j, (catB (fun x : W32 => str (leL x.toNat 4).reverse) ((runP m n).l.take j)).size ≤ 32 := fun n j => by
    have h1 := catB_size (fun x : W32 => str (leL x.toNat 4).reverse) 4 ((runP m n).l.take j) fun x _ => by rw [str_size, List.length_reverse, leL_length]; exact Nat.le_refl _
    have h2 : ((runP m n).l.take j).length ≤ 8 := by rw [List.length_take, l8]; omega
    omega
  refine s_kedgeref04_Sum rfl ?_
  unfold k_kedgeref04_Sum
  refine ox ?_
  repeat' (first|(refine st_build (cs := s8Init.cs) (by kernel_rfl) ?_)|(refine st_ldW (ad := ⟨b3, 0, none⟩) (l := (runP m n).l) j rfl (Row.of_at (t := T.n_8_uint32) (f := (0, 0)) (by focus (repeat (first | assumption | (apply At.ext; assumption))))) (by rw [l8]; omega) ?_; have hj8 : j < 8 := (by omega))|(refine st_arr j rfl rfl (by omega) ?_)|(refine st_wShr 24 (by decide) rfl rfl ?_)|(refine st_wShr 16 (by decide) rfl rfl ?_)|(refine st_wShr 8 (by decide) rfl rfl ?_)|(refine st_wU8 rfl ?_)|(first|refine go1 ?_|refine zg (fun _ _=>?_)|refine zi (fun _ _=>?_))|refine zL rfl (fun h => ?_) (fun h => ?_)|(refine zH (fun b3 w1 x1 a1 hb3 => ?_))|(refine st_storeN0 (vs := s8Init.cs) rfl rfl rfl (all_one (cs_one _)) (cur := ZR 8) a1 rfl (fun w2 c2 a2 => ?_); have x2 : Ext w w2 := (Ext.chg x1 c2).mono (by intro y hy; simp at hy; right; omega); rw [S8.cs_eq] at a2)|(refine zC rfl (pad_spec s hs _) ?_; rintro v w3 ⟨hv, x3, hvb⟩; rw [hm] at hv; have l3 := a2.lt)|(refine st_len rfl (SlE.ext (w := w4) (by exact fx) hv4) ?_)|(refine c_loopV (fun (n : Nat) w' => Ext w w' ∧ SlE u8E w' v m ∧ n ≤ N ∧ At w' b3 (.cells (wCs (runP m n).l).toArray T.n_8_uint32 (0, 0))) (fun n => [(2, .string ⟨#[]⟩), (3, .pointer (some ⟨b3, 0, none⟩)), (4, v), (5, .int .i64 ((64 * n : Nat) : Int))]) (fun n => N - n) 0 ⟨rfl, rfl, rfl, rfl, trivial⟩ ⟨by exact fx, hv, by omega, by rw [run_z]; focus (repeat (first | assumption | (apply At.ext; assumption)))⟩ ?_; rintro n ρ w4 ⟨x4, hv4, hn, h3⟩)|(refine c_loopV (fun (j : Nat) w' => Ext w4 w' ∧ j ≤ 8) (fun j => [(3, .pointer (some ⟨b3, 0, none⟩)), (6, .string (catB (fun x : W32 => str (leL x.toNat 4).reverse) ((runP m n).l.take j))), (7, .int .i64 j)]) (fun j => 8 - j) 0 ⟨rfl, congrArg Value.string (by rw [List.take_zero, catB_nil]), rfl, trivial⟩ ⟨Ext.refl _, by omega⟩ ?_; rintro j ρ8 w8 ⟨x8, hj⟩; have hz := hout n j)|(refine st_lN0 (n := 8) (l := wCs (runP m n).l) rfl (Row.of_at (t := T.n_8_uint32) (f := (0, 0)) (by focus (repeat (first | assumption | (apply At.ext; assumption))))) (by rw [wCs_len]; exact Nat.le_refl _) (by rw [List.take_of_length_le]; rw [wCs_len]; exact Nat.le_refl _) ?_))
  · have hn2 : n < N := by omega
    refine st_sliceE (lo := 64 * n) (hi := 64 * n + 64) rfl rfl (congrArg (Value.int .i64) (by omega)) (SlE.ext (w := w4) (by exact fx) hv4) (by omega) (by omega) rfl (fun v5 hv5 _ => ?_)
    refine zC rfl (block_spec (runP m n) (by rw [List.length_take, List.length_drop]; omega) _ hv5) ?_
    rintro _ w6 ⟨rfl, x6⟩
    have e : comp (runP m n) ((m.drop (64 * n)).take (64 * n + 64 - 64 * n)) = runP m (n + 1) := by
      rw [show 64 * n + 64 - 64 * n = 64 by omega, comp_take, run_s, comp]
    rw [e]
    refine st_storeN0 (vs := wCs (runP m (n + 1)).l) rfl rfl (by rw [wCs_len]; rfl) (all_one (wCs_one _)) (cur := wCs (runP m n).l) (by focus (repeat (first | assumption | (apply At.ext; assumption)))) (by rw [wCs_len]; rfl) (fun w7 c7 a7 => ?_)
    repeat (first|refine go ?_|refine zg (fun _ _=>?_)|refine zi (fun _ _=>?_))
    exact ⟨n + 1, ⟨rfl, rfl, rfl, congrArg (Value.int .i64) (by omega), trivial⟩, ⟨(Ext.chg (w := w) (by exact fx) c7).mono (by intro y hy; simp at hy; right; omega), SlE.chg c7 (SlE.ext (w := w4) (by exact fx) hv4) (fun a m c e hm => by have := hvb a.block (by rw [e]; simp [blkOf]); simp at hm; omega), by omega, a7⟩, by omega⟩
  · refine zI rfl (fun b w9 x9 a9 hb9 => ?_)
    refine st_strU (l := [UInt8.ofNat (wAt (runP m n).l j >>> 24).toNat, UInt8.ofNat (wAt (runP m n).l j >>> 16).toNat, UInt8.ofNat (wAt (runP m n).l j >>> 8).toNat, UInt8.ofNat (wAt (runP m n).l j).toNat]) rfl (SlE.new (E := u8E) a9 rfl (Nat.le_refl _)) ?_
    rw [be4]
    refine st_catS rfl rfl (by rw [str_size, List.length_reverse, leL_length]; omega) ?_
    repeat (first|refine go ?_|refine zg (fun _ _=>?_)|refine zi (fun _ _=>?_))
    refine ⟨j + 1, ⟨rfl, congrArg Value.string ?_, rfl, trivial⟩, ⟨by exact fx, by omega⟩, by omega⟩
    have hjl : j < (runP m n).l.length := by rw [l8]; omega
    have e : wAt (runP m n).l j = (runP m n).l[j] := by unfold wAt; rw [List.getD_eq_getElem?_getD, List.getElem?_eq_getElem hjl]; rfl
    rw [catB_take _ hjl, ← e]
  · have hn2 : n = N := by omega
    subst hn2
    refine x_ret rfl ⟨congrArg Value.string ?_, by exact fx⟩
    rw [List.take_of_length_le (by rw [l8]; omega), shaS, hm, hN, Nat.mul_div_cancel_left _ (by decide), outW]
theorem rtwice_spec (s : ByteArray) (hs : s.size ≤ 4000000) (w : World) : K.Spec Tryz.prog F.kedgeref04_Twice [.string s] w fun r w' => r = .string (sha2 s) ∧ Ext w w' := by
  refine s_kedgeref04_Twice rfl ?_
  unfold k_kedgeref04_Twice
  refine ox ?_
  repeat' (first|(first|refine go1 ?_|refine zg (fun _ _=>?_)|refine zi (fun _ _=>?_))|(refine zC rfl (rdig_spec s hs _) ?_; rintro _ w1 ⟨rfl, x1⟩)|(refine zC rfl (rdig_spec (shaS s) (by rw [shaS_size]; decide) _) ?_; rintro _ w2 ⟨rfl, x2⟩))
  exact x_ret rfl ⟨by rw [sha2]; rfl, by exact fx⟩
theorem rbytesT {M : List Nat} {cs : List Value} {t : Tx} (w : World) (ht : txR.rel M w cs t) (hs : t.Sz) : K.Spec Tryz.prog F.kedgeref06_Bytes [.agg cs.toArray, .bool true] w fun r w' => r = .string (encT false t) ∧ Ext w w' := rbytes_spec true w ht hs
theorem rbytesF {M : List Nat} {cs : List Value} {t : Tx} (w : World) (ht : txR.rel M w cs t) (hs : t.Sz) : K.Spec Tryz.prog F.kedgeref06_Bytes [.agg cs.toArray, .bool false] w fun r w' => r = .string (encT (witB t) t) ∧ Ext w w' := rbytes_spec false w ht hs
theorem rid_spec {M : List Nat} {cs : List Value} {t : Tx} (w : World) (ht : txR.rel M w cs t) (hs : t.Sz) : K.Spec Tryz.prog F.kedgeref07_ID [.agg cs.toArray] w fun r w' => r = .string (idT t) ∧ Ext w w' := by
  have ht0 := ht
  obtain ⟨iv, ov, rfl, hi, ho, hv, hl⟩ := ht
  refine s_kedgeref07_ID rfl ?_
  unfold k_kedgeref07_ID
  refine ox ?_
  repeat' (first|(first|refine go1 ?_|refine zg (fun _ _=>?_)|refine zi (fun _ _=>?_))|(first|refine zD rfl rfl (fun bp wp xp ap rp hp0=>?_)|refine zE (fun _=>rfl) rfl rfl rfl (fun bq wq xq aq rq hq0=>?_))|(refine zC rfl (rbytesT (M := M) _ (cs := txCs t iv ov) (by exact fx) hs) ?_; rintro _ w1 ⟨rfl, x1⟩)|(refine zC rfl (rtwice_spec (encT false t) (by have := hs.all false; omega) _) ?_; rintro _ w2 ⟨rfl, x2⟩))
  exact x_ret rfl ⟨by rw [idT]; rfl, by exact fx⟩
theorem rweight_spec {M : List Nat} {cs : List Value} {t : Tx} (w : World) (ht : txR.rel M w cs t) (hs : t.Sz) : K.Spec Tryz.prog F.kedgeref07_Weight [.agg cs.toArray] w fun r w' => r = .int .i64 (weightT t : Nat) ∧ Ext w w' := by
  have ht0 := ht
  obtain ⟨iv, ov, rfl, hi, ho, hv, hl⟩ := ht
  have h1 := hs.all false
  have h2 := hs.all (witB t)
  refine s_kedgeref07_Weight rfl ?_
  unfold k_kedgeref07_Weight
  refine ox ?_
  repeat' (first|(refine st_mul rfl rfl (by omega) ?_)|(first|refine go1 ?_|refine zg (fun _ _=>?_)|refine zi (fun _ _=>?_))|(first|refine zD rfl rfl (fun bp wp xp ap rp hp0=>?_)|refine zE (fun _=>rfl) rfl rfl rfl (fun bq wq xq aq rq hq0=>?_))|(refine zC rfl (rbytesT (M := M) _ (cs := txCs t iv ov) (by exact fx) hs) ?_; rintro _ w1 ⟨rfl, x1⟩)|(refine zC rfl (rbytesF (M := M) _ (cs := txCs t iv ov) (by exact fx) hs) ?_; rintro _ w2 ⟨rfl, x2⟩))
  exact x_ret rfl ⟨congrArg (Value.int .i64) (by rw [weightT]; omega), by exact fx⟩
theorem rsize_spec {M : List Nat} {cs : List Value} {t : Tx} (w : World) (ht : txR.rel M w cs t) (hs : t.Sz) : K.Spec Tryz.prog F.kedgeref07_Size [.agg cs.toArray] w fun r w' => r = .int .i64 (sizeT t : Nat) ∧ Ext w w' := by
  have ht0 := ht
  obtain ⟨iv, ov, rfl, hi, ho, hv, hl⟩ := ht
  have h1 := hs.weight
  refine s_kedgeref07_Size rfl ?_
  unfold k_kedgeref07_Size
  refine ox ?_
  repeat' (first|(refine st_rem (n := weightT t) (m := 4) rfl rfl (by decide) ?_)|(refine st_quo (n := weightT t) (m := 4) rfl rfl (by decide) (by omega) ?_)|(first|refine go1 ?_|refine zg (fun _ _=>?_)|refine zi (fun _ _=>?_))|(first|refine zD rfl rfl (fun bp wp xp ap rp hp0=>?_)|refine zE (fun _=>rfl) rfl rfl rfl (fun bq wq xq aq rq hq0=>?_))|refine zL rfl (fun h => ?_) (fun h => ?_)|(refine zC rfl (rweight_spec (M := M) _ (cs := txCs t iv ov) (by exact fx) hs) ?_; rintro _ w1 ⟨rfl, x1⟩))
  all_goals exact x_ret rfl ⟨congrArg (Value.int .i64) (by rw [sizeT]; omega), by exact fx⟩
end Go.Proofs.YtfeifodeaphbjaaGreat
end
section
namespace Go.K
open Go
variable {P : Program}
def Vec.set {k : Nat} (c : Vec k) (o : Nat) (u : Value) (hu : u.oneCell' = true) : Vec k :=
  ⟨c.1.set o u, by rw [List.length_set]; exact c.2.1, fun v hv => by
    rcases List.mem_or_eq_of_mem_set hv with h | h
    · exact c.2.2 v h
    · rw [h]; exact hu⟩
theorem flat_set {k : Nat} (hk : 0 < k) {u : Value} (hu : u.oneCell' = true) {o : Nat} (ho : o < k) : ∀ (css : List (Vec k)) (i : Nat) (h : i < css.length), ((vecE k hk).flat css).set (i * k + o) u = (vecE k hk).flat (css.set i (css[i].set o u hu))
  | c :: css, 0, _ => by
    have hc : c.1.length = k := c.2.1
    simp only [Enc.flat, List.flatMap_cons, List.set_cons_zero, List.getElem_cons_zero, Nat.zero_mul, Nat.zero_add]
    rw [List.set_append_left _ _ (by show o < c.1.length; omega)]
    rfl
  | c :: css, i + 1, h => by
    have hc : c.1.length = k := c.2.1
    have ih := flat_set hk hu ho css i (by simpa using h)
    simp only [Enc.flat, List.flatMap_cons, List.set_cons_succ, List.getElem_cons_succ] at ih ⊢
    have e : (vecE k hk).f c = c.1 := rfl
    rw [e, List.set_append_right _ _ (by rw [hc, Nat.add_mul]; omega), hc, ← ih]
    congr 2
    rw [Nat.add_mul]; omega
section
variable {α : Type} {E : R α} {M M' L : List Nat} {w w' : World} {t : TypeId} {B : Nat} {v : Value} {l : List α}
theorem All2.set {α β : Type} {r : α → β → Prop} {a : α} {b : β} (hr : r a b) : ∀ {l : List α} {m : List β}, All2 r l m → ∀ i, All2 r (l.set i a) (m.set i b)
  | _, _, .nil, _ => by simpa using All2.nil
  | _, _, .cons _ t, 0 => by simpa using All2.cons hr t
  | _, _, .cons h t, i + 1 => by simpa using All2.cons h (t.set hr i)
/-- What such a slice is, if it has an element. -/
theorem OwnR.open (h : OwnR E t B M w v l) (hp : 0 < l.length) : ∃ (b cap : Nat) (css : List (Vec E.k)) (junk : List Value), v = .slice (some ⟨b, 0, none⟩) l.length cap ∧ B ≤ b ∧ At w b (.cells ((vecE E.k E.pos).flat css ++ junk).toArray t (0, 0)) ∧ css.length = l.length ∧ ((vecE E.k E.pos).flat css ++ junk).length = cap * E.k ∧ E.all (b :: M) w css l ∧ SlE (vecE E.k E.pos) w v css := by
  obtain ⟨css, h1, h2⟩ := h
  have hlen := h2.length
  have hsl := h1.sl
  rcases h1 with ⟨rfl, rfl⟩ | ⟨b, cap, junk, rfl, hB, hat, hl⟩
  · rw [← hlen] at hp; simp at hp
  · exact ⟨b, cap, css, junk, by rw [hlen], hB, hat, hlen, hl, h2, hsl⟩
/-- A store of one cell into an element. -/
theorem st_storeO {d : Option Tmp} {r : KR} {K : Env → World → Prop} {ρ : Env} {x y : Operand} {b cap i o : Nat} {css : List (Vec E.k)} {junk : List Value} {u : Value} {a : α}
    (hx : ev ρ x = .pointer (some ((Addr.add ⟨b, 0, none⟩ (i * E.k)).add o))) (hy : ev ρ y = u) (hu : u.oneCell' = true) (hB : B ≤ b) (hat : At w b (.cells ((vecE E.k E.pos).flat css ++ junk).toArray t (0, 0))) (hc : css.length = l.length) (hl : ((vecE E.k E.pos).flat css ++ junk).length = cap * E.k) (ha : E.all (b :: M) w css l)
    (hi : i < l.length) (ho : o < E.k) (hn : ∀ w', Chg [b] w w' → E.rel (b :: M) w' ((css[i]'(by omega)).1.set o u) a)
    (k : ∀ w', Chg [b] w w' → OwnR E t B M w' (.slice (some ⟨b, 0, none⟩) l.length cap) (l.set i a) → regK P r K (put ρ d undef) w') : regK P (.cons ⟨d, .store x y, none⟩ r) K ρ w := by
  have hk := E.pos
  have hflat : ((vecE E.k E.pos).flat css).length = l.length * E.k := by rw [Enc.flat_length, hc]; rfl
  have hlt : i * E.k + o < ((vecE E.k E.pos).flat css).length := by
    have := Nat.mul_le_mul_right E.k (show i + 1 ≤ l.length from hi)
    rw [Nat.add_mul] at this; omega
  refine st_store (o := i * E.k + o) (by rw [hx, add_add]) hy hu hat (by rw [List.length_append]; omega) fun w' c a' => ?_
  refine k w' c ⟨css.set i ((css[i]'(by omega)).set o u hu), .inr ⟨b, cap, junk, by rw [List.length_set, hc], hB, ?_, ?_⟩, ?_⟩
  · rw [List.set_append_left _ _ hlt, flat_set E.pos hu ho css i (by omega)] at a'
    exact a'
  · rw [List.length_append] at hl ⊢
    rw [Enc.flat_length] at hl ⊢
    rw [List.length_set]; exact hl
  · have h3 : E.all (b :: M) w' css l := ha.mono fun _ _ hr => E.step hr c (fun b hb => .inl (by simp at hb; subst hb; simp)) (fun b hb => .inl hb)
    exact All2.set (r := fun (c : Vec E.k) x => E.rel (b :: M) w' c.1 x) (a := (css[i]'(by omega)).set o u hu) (hn w' c) h3 i
theorem SlR.nil_of {n cap : Nat} (h : SlR E M w (.slice none n cap) l) : l = [] := by
  obtain ⟨css, ⟨h1, base, c, hv, _, h2⟩, h3, _⟩ := h
  rcases Nat.eq_zero_or_pos l.length with h4 | h4
  · exact List.length_eq_zero_iff.1 h4
  · have h5 := h3.length
    rw [Enc.flat_length] at h2
    obtain ⟨a, ha, _⟩ := h2 (Nat.mul_pos (by omega) E.pos)
    injection hv with e1; subst e1; cases ha
/-- A slice that is nil, or of no element in a block of its own. -/
theorem OwnR.empty {b : Nat} (hB : B ≤ b) (h : At w b (.cells #[] t (0, 0))) : OwnR E t B M w (.slice (some ⟨b, 0, none⟩) 0 0) [] :=
  ⟨[], .inr ⟨b, 0, [], rfl, hB, h, by simp [Enc.flat]⟩, .nil⟩
theorem OwnR.sub (h : OwnR E t B M w v l) (hm : ∀ b ∈ M', b ∈ M ∨ w.heap.size ≤ b) : OwnR E t B M' w v l := h.step (Chg.refl [] w) (by simp) hm
theorem all_ext {css : List (Vec E.k)} (h : E.all M w css l) (c : Ext w w') : E.all M w' css l := h.mono fun _ _ hr => R.ext hr c
theorem OwnR.one (h : OwnR E t B M w v l) : v.oneCell' = true := by
  obtain ⟨css, h1, _⟩ := h
  rcases h1 with ⟨rfl, _⟩ | ⟨b, cap, junk, rfl, _⟩ <;> rfl
theorem SlR.one (h : SlR E M w v l) : v.oneCell' = true := by
  obtain ⟨_, _, rfl⟩ := h.form; rfl
end
end Go.K
end
