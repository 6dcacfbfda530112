/- What comes in for the laws of limits. Contracts: a graph of any entries. Contracts: a graph of what fits, or of all. Plain: a chain of transactions, and its ids. Plain: what hangs on what, from both ends. -/
import Derived.Test.YtfeifodeaphbjaaGreatH48
set_option linter.unusedVariables false
set_option linter.unusedSimpArgs false
section
namespace Go.Proofs.YtfeifodeaphbjaaGreat
open Go Go.K Go.ChangeShapes Go.WideShapes Go.ChangeAt Go.RowKit
set_option maxRecDepth 100000
theorem c_build : Tryz.prog.cellsOf 72 = 4 := by kernel_rfl
theorem reads_u8s {W : World} {v : Value} (h : Reads Tryz.prog W 29 [v]) : ∃ l, SlR u8R [] W v l := by
  obtain ⟨l, h1, _⟩ := reads_slR u8R Tryz.underlying29 (by kernel_rfl) (fun c hc => by
      obtain ⟨b, e⟩ := reads_u8 hc
      exact ⟨b, by subst e; rfl⟩) h
  exact ⟨l, h1⟩
theorem reads_build {W : World} {c : List Value} (h : Reads Tryz.prog W 72 c) : ∃ z : BuildG, buildR.rel [] W c z := by
  obtain ⟨h1, h2⟩ := reads_struct Tryz.underlying72 h
  have l : c.length = 4 := h1.trans c_build
  match c, l with
  | [c0, c1, c2, c3], _ =>
    have g0 := h2 _ (List.mem_of_getElem? (i := 0) rfl)
    have g1 := h2 _ (List.mem_of_getElem? (i := 1) rfl)
    have g2 := h2 _ (List.mem_of_getElem? (i := 2) rfl)
    have g3 := h2 _ (List.mem_of_getElem? (i := 3) rfl)
    simp only [c_lu8, List.drop_zero, List.drop_succ_cons, List.take_succ_cons, List.take_zero] at g0 g1 g2
    obtain ⟨on, ho⟩ := reads_u8s g0
    obtain ⟨two, ht⟩ := reads_u8s g1
    obtain ⟨long, hl⟩ := reads_u8s g2
    obtain ⟨f, e3⟩ := reads_bool Tryz.underlying4 g3
    simp only [c_bool, List.drop_zero, List.drop_succ_cons, List.take_succ_cons, List.take_zero, List.cons.injEq, and_true] at e3
    exact ⟨⟨on, two, long, f⟩, c0, c1, c2, by rw [e3]; rfl, ho, ht, hl⟩
end Go.Proofs.YtfeifodeaphbjaaGreat
end
section
namespace Go.Proofs.YtfeifodeaphbjaaGreat
open Go Go.K
attribute [local irreducible] regK codeK retK KOp.wp K.Spec u32 leS vnS str zero32 sha2 encT idT sizeT checkT grantB idN stepR workL reachE findI dropG addG

def feeA (a : Int) : Int := IntKind.i64.wrap ((BitVec.ofInt IntKind.i64.bits a &&& BitVec.ofInt IntKind.i64.bits 65535).toNat : Nat)
theorem feeA_64 (a : Int) : is64 (feeA a) := by
  unfold feeA is64
  have : ∀ n : Int, IntKind.i64.wrap n = (n + 9223372036854775808) % 18446744073709551616 - 9223372036854775808 := fun n => by
    simp only [IntKind.wrap, IntKind.bits, IntKind.signed]
    simp; split <;> omega
  rw [this]; omega
section
variable {P : Program} {d : Option Tmp} {r : KR} {K : Env → World → Prop} {ρ : Env} {w : World}
theorem st_takeR {α : Type} {E : R α} {M : List Nat} {size : Nat} {x h : Operand} {v : Value} {l : List α} {kd : IntKind} {n : Nat} {m : Int} {w1 : World} (hx : ev ρ x = v) (hh : ev ρ h = .int kd m) (hm : m = (n : Nat)) (hs : SlR E M w1 v l) (hn : n ≤ l.length) (hk : size = E.k)
    (k : ∀ v', SlR E M w1 v' (l.take n) → regK P r K (put ρ d v') w) : regK P (.cons ⟨d, .sliceSl size x none (some h), none⟩ r) K ρ w := by
  subst hm
  obtain ⟨css, h1, h2, h3⟩ := hs
  have hl := h2.length
  refine st_takeE (E := vecE E.k E.pos) hx hh h1 (by rw [hl]; exact hn) hk fun v' h4 h5 => k v' ⟨css.take n, h4, ?_, fun hp b hb => h3 (by rw [List.length_take] at hp; omega) b (h5 b hb)⟩
  have := h2.take n
  exact All2.take n h2
end
theorem addG_le {l : List Ent} {t : Tx} {fee : Int} : (addG l t fee).1.length ≤ l.length + 1 := by
  unfold addG
  split; · simp
  split; · simp
  split; · simp
  split; · simp
  split <;> simp
theorem dropG_le {l : List Ent} {id : ByteArray} : (dropG l id).1.length ≤ l.length := by
  unfold dropG
  split
  · simp
  · rw [List.length_eraseIdx]; split <;> omega
set_option maxHeartbeats 4000000 in
theorem filled_spec {v : Value} {sc : List ActG} (most : Nat) (w : World) (hs : SlR actR [] w v sc) (hm : most ≤ 14) :
    K.Spec Tryz.prog F.kedgelaw14_filled [v, .int .i64 (most : Nat)] w fun r w' => ∃ g M u l, r = .tuple #[.pointer (some ⟨g, 0, none⟩), u] ∧ Gr w' w.heap.size g M l ∧ SlR entR M w' u l ∧ l.length ≤ most ∧ Ext w w' := by
  refine s_kedgelaw14_filled rfl ?_
  unfold k_kedgelaw14_filled
  refine ox ?_
  repeat' (first|(refine st_takeR (d := some 18) (E := actR) (n := min sc.length most) rfl rfl (by omega) hs (by omega) rfl (fun v' hv => ?_))|(first|refine go1 ?_|refine zg (fun _ _=>?_)|refine zi (fun _ _=>?_))|(refine zC rfl (new_spec _) ?_; rintro _ w1 ⟨g, M1, rfl, G1, x1⟩)|(refine zG (E := actR) (M := []) (l := sc) rfl (SlR.ext hs (by exact fx)) ?_)|(refine zG (d := some 19) (E := actR) (M := []) (l := sc.take (min sc.length most)) rfl (SlR.ext hv (by exact fx)) ?_)|(refine st_min rfl rfl ?_))
  have hSl : (sc.take (min sc.length most)).length ≤ most := by rw [List.length_take]; omega
  generalize sc.take (min sc.length most) = S at *
  have hv1 := SlR.ext hv x1
  repeat' (first|(first|refine go1 ?_|refine zg (fun _ _=>?_)|refine zi (fun _ _=>?_))|(refine zL rfl (fun h => ?_) (fun h => ?_))|(refine c_loopV (fun (p : Nat × List Ent × List Nat × Value) w' => Ext w w' ∧ p.1 ≤ S.length ∧ p.2.1.length ≤ p.1 ∧ Gr w' w.heap.size g p.2.2.1 p.2.1 ∧ SlR entR p.2.2.1 w' p.2.2.2 p.2.1) (fun p => [(6, .pointer (some ⟨g, 0, none⟩)), (7, p.2.2.2), (18, v'), (19, .int .i64 (S.length : Nat)), (20, .int .i64 p.1)]) (fun p => S.length - p.1) (0, [], M1, .slice none 0 0) ⟨rfl, rfl, rfl, rfl, rfl, trivial⟩ ⟨x1, by simp, by simp, G1, SlR.nil _ _⟩ ?_; rintro ⟨i, l, M, u⟩ ρ w3 ⟨x3, hi, hli, G3, u3⟩; simp only at hi hli G3 u3; dsimp only; have hM3 := G3.lt; have hB3 := G3.base))
  · clear G1 x1 hv1
    have hil : i < S.length := by omega
    have hid32 : ∀ x ∈ l, x.id.size = 32 := fun x hx => by rw [(G3.ok x hx).id]; exact idT_size _
    refine st_elemR (d := some 22) (E := actR) (M := M) rfl rfl (n := i) (l := S) (hv.step x3 (by simp) (fun b hb => .inr (hB3 b hb))) rfl hil (fun ad cs r4 he => ?_)
    have hact := he
    obtain ⟨fv, iv, ov, rfl, q1, q2, q3, q4, q5, q6, q7, q8⟩ := he
    have i1 := q1.one
    have i2 := q2.one
    have i3 := q3.one
    generalize S[i] = a at *
    have s3 := x3.size
    repeat' (first|(first|refine go1 ?_|refine zg (fun _ _=>?_)|refine zi (fun _ _=>?_))|(refine zE (d' := 9) (fun _=>rfl) rfl rfl (by simp [actCs, i1, i2, i3]; exact ⟨rfl, rfl, rfl, rfl, rfl, rfl, rfl, rfl, rfl, rfl⟩) (fun b9 w9 x9 (a9 : At w9 b9 (.cells (actCs a fv iv ov).toArray T.kedgelaw14_Act (0, 0))) (r9 : Row w9 ⟨b9, 0, none⟩ (actCs a fv iv ov)) hb9=>?_))|(refine zC rfl (of_spec (M := M) (l := l) (cs := actCs a fv iv ov) (a := a) _ (u3.ext (by exact fx)) (R.ext hact (by exact fx)) (by omega) hid32 (fun b hb => Nat.lt_of_lt_of_le (hM3 b hb) (Ext.size (by exact fx)))) ?_; rintro _ w5 ⟨ds, t, rfl, ho, hsm, x5⟩))
    have s9 := x9.size
    have s5 := x5.size
    have hMo : ∀ b ∈ M, b < w9.heap.size := fun b hb => by have := hM3 b hb; omega
    have t5 : txR.rel M w5 ds t := txO.rel ho hMo
    have o1 := ho.one
    obtain ⟨iv5, ov5, rfl, -⟩ := ho
    refine zE (d' := 10) (fun _=>rfl) rfl rfl o1 (fun b6 w6 x6 (a6 : At w6 b6 (.cells (txCs t iv5 ov5).toArray T.api_Tx (0, 0))) r6 hb6=>?_)
    have s6 := x6.size
    have l9 := a9.lt
    have l6 := a6.lt
    have a96 := a9.ext (x5.trans x6)
    have r96 : Row w6 ⟨b9, 0, none⟩ (actCs a fv iv ov) := Row.of_at a96
    have t6 : txR.rel M w6 (txCs t iv5 ov5) t := R.ext t5 x6
    have x36 := (x9.trans x5).trans x6
    have G6 := G3.ext x36
    have u6 := u3.ext x36
    have x06 := x3.trans x36
    have hM6 : ∀ b ∈ M, b < w6.heap.size := fun b hb => by have := hM3 b hb; omega
    have hf := feeA_64 a.small.fee
    have n9 : b9 ∉ M := fun h => by have := hM3 _ h; omega
    have n6 : b6 ∉ M := fun h => by have := hM3 _ h; omega
    clear x3 x9 x5 x6 x36 G3 u3 a9 r9 t5 r4 hact q1 q2 q3
    repeat' (first|(refine st_bin (d := some 32) (v := .int .i64 (feeA a.small.fee)) rfl rfl rfl ?_)|(first|refine go1 ?_|refine zg (fun _ _=>?_)|refine zi (fun _ _=>?_))|(refine zC rfl (gadd_spec (M := M) (N := M) (cs := txCs t iv5 ov5) (t := t) (feeA a.small.fee) _ G6 t6 hsm hf hM6 (fun _ h => h) (by omega)) ?_; rintro _ w7 ⟨M7, rfl, G7, c7, hb7⟩))
    have t7 : txR.rel M7 w7 (txCs t iv5 ov5) t := txR.step t6 c7 (fun b hb => .inl hb) hb7
    have u7 : SlR entR M7 w7 u l := u6.step c7 (fun b hb => .inl hb) hb7
    have a97 := a96.chg c7 n9
    have a67 := a6.chg c7 n6
    have r97 : Row w7 ⟨b9, 0, none⟩ (actCs a fv iv ov) := Row.of_at a97
    have r67 : Row w7 ⟨b6, 0, none⟩ (txCs t iv5 ov5) := Row.of_at a67
    have x07 : Ext w w7 := (x06.chg c7).mono (fun b hb => .inr (hB3 b hb))
    have hok := G6.ok
    have hM7 := G7.lt
    have hB7 := G7.base
    have s7 := c7.size
    clear t6 u6 a96 r96 c7 x06 G6 r6 a6
    repeat' (first|(refine st_bin (d := some 40) (v := .int .i64 (feeA a.small.fee)) rfl rfl rfl ?_)|(first|refine go1 ?_|refine zg (fun _ _=>?_)|refine zi (fun _ _=>?_))|(refine zC rfl (radd_spec (M := M7) (l := l) (cs := txCs t iv5 ov5) (t := t) (feeA a.small.fee) _ u7 t7 hsm hf (by omega) hok hM7) ?_; rintro _ w8 ⟨u8, rfl, hu8, x8⟩))
    have hla := @addG_le l t (feeA a.small.fee)
    generalize (addG l t (feeA a.small.fee)).1 = l' at *
    have x08 := x07.trans x8
    have G8 := G7.ext x8
    have r98 := r97.ext x8
    have hM8 : ∀ b ∈ M7, b < w8.heap.size := fun b hb => Nat.lt_of_lt_of_le (hM7 b hb) x8.size
    have hll : l'.length ≤ i + 1 := by omega
    have hok' := G7.ok
    clear x07 x8 G7 r97 u7 t7 a97 a67 r67
    repeat' (first|(refine st_fixV (d := some 56) (.int .i64 (a.which.toNat : Nat)) rfl (congrArg (fun n => some (Value.int .i64 n)) (wrap_u8 a.which)) ?_)|(refine st_rem (d := some 59) (n := a.which.toNat) (m := l'.length) rfl rfl (by omega) ?_)|(first|refine go1 ?_|refine zg (fun _ _=>?_)|refine zi (fun _ _=>?_))|(refine zJ rfl (fun h7 => ?_) (fun h7 => ?_))|(refine zL rfl (fun h8 => ?_) (fun h8 => ?_))|(refine zG (E := entR) (M := M7) (l := l') rfl (SlR.ext hu8 (by exact fx)) ?_)|(have hkl : a.which.toNat % l'.length < l'.length := Nat.mod_lt _ (by omega); refine st_elemR (d := some 60) (E := entR) (M := M7) rfl rfl (n := a.which.toNat % l'.length) (l := l') hu8 rfl hkl (fun ad cs r4 he => ?_); obtain ⟨iv9, ov9, rfl, -⟩ := he)|(refine zC rfl (gdrop_spec (M := M7) (l := l') l'[a.which.toNat % l'.length].id _ G8 (by omega)) ?_; rintro _ w9 ⟨M9, rfl, G9, c9, hb9'⟩))
    · have u9 : SlR entR M9 w9 u8 l' := hu8.step c9 (fun b hb => .inl hb) hb9'
      have x09 : Ext w w9 := (x08.chg c9).mono (fun b hb => .inr (hB7 b hb))
      refine zC rfl (rdrop_spec (M := M9) (l := l') l'[a.which.toNat % l'.length].id _ u9 (by omega) G9.lt) ?_
      rintro _ w10 ⟨u10, rfl, hu10, x10⟩
      repeat' (first|refine go1 ?_|refine zg (fun _ _=>?_)|refine zi (fun _ _=>?_))
      have hdl := @dropG_le l' l'[a.which.toNat % l'.length].id
      exact ⟨(i + 1, (dropG l' l'[a.which.toNat % l'.length].id).1, M9, u10), ⟨rfl, rfl, rfl, rfl, rfl, trivial⟩, ⟨x09.trans x10, by simp; omega, by simp only; omega, G9.ext x10, hu10⟩, by simp; omega⟩
    · exact ⟨(i + 1, l', M7, u8), ⟨rfl, rfl, rfl, rfl, rfl, trivial⟩, ⟨x08, by simp; omega, by simp only; omega, G8, hu8⟩, by simp; omega⟩
    · exact ⟨(i + 1, l', M7, u8), ⟨rfl, rfl, rfl, rfl, rfl, trivial⟩, ⟨x08, by simp; omega, by simp only; omega, G8, hu8⟩, by simp; omega⟩
  · have ei : i = S.length := by omega
    exact x_ret rfl ⟨g, M, u, l, rfl, G3, u3, by omega, x3⟩
end Go.Proofs.YtfeifodeaphbjaaGreat
end
section
namespace Go.Proofs.YtfeifodeaphbjaaGreat
open Go Go.K
theorem is64_one : is64 1 := by unfold is64; omega
attribute [local irreducible] regK codeK retK KOp.wp K.Spec u32 leS vnS str zero32 sha2 encT idT sizeT checkT grantB idN stepR workL reachE findI dropG addG aboveL belowL idsOf feeD sizeD szOf feeOf fitsL

theorem Gr.lower {w : World} {B B' g : Nat} {M : List Nat} {l : List Ent} (h : Gr w B g M l) (hb : B' ≤ B) : Gr w B' g M l := by
  obtain ⟨b1, vo, b2, m, sp, P, rfl⟩ := h
  exact ⟨b1, vo, b2, m, sp, ⟨P.at_, P.ents, P.pts, P.ord.lower hb, P.inv, P.nd, by have := P.lo; omega⟩, rfl⟩
set_option maxHeartbeats 2000000 in
theorem built_spec {cs : List Value} {z : BuildG} (all : Bool) (w : World) (hz : buildR.rel [] w cs z) :
    K.Spec Tryz.prog F.kedgelaw15_built [.agg cs.toArray, .bool all] w fun r w' => ∃ g M u l, r = .tuple #[.pointer (some ⟨g, 0, none⟩), u] ∧ Gr w' w.heap.size g M l ∧ SlR entR M w' u l ∧ l.length ≤ 34 ∧ Ext w w' := by
  have hz0 := hz
  obtain ⟨ov, tv, lv, rfl, h1, h2, h3⟩ := hz
  refine s_kedgelaw15_built rfl ?_
  unfold k_kedgelaw15_built
  refine ox ?_
  repeat' (first|(refine st_takeR (d := some 18) (E := u8R) (n := min z.on.length 34) rfl rfl (by omega) h1 (by omega) rfl (fun v' hv => ?_))|(first|refine go1 ?_|refine zg (fun _ _=>?_)|refine zi (fun _ _=>?_))|(refine zD rfl rfl (fun b2 w2 x2 a2 (r2 : Row w2 ⟨b2, 0, none⟩ (bldCs z ov tv lv)) hb2=>?_))|(refine zC rfl (new_spec _) ?_; rintro _ w1 ⟨g, M1, rfl, G1, x1⟩)|(refine zG (d := some 16) (E := u8R) (M := []) (l := z.on) rfl (SlR.ext h1 (by exact fx)) ?_)|(refine zG (d := some 19) (E := u8R) (M := []) (l := z.on.take (min z.on.length 34)) rfl (SlR.ext hv (by exact fx)) ?_)|(refine st_min rfl rfl ?_))
  have hSl : (z.on.take (min z.on.length 34)).length ≤ 34 := by rw [List.length_take]; omega
  generalize z.on.take (min z.on.length 34) = S at *
  have s2 := x2.size
  have l2 := a2.lt
  repeat' (first|(first|refine go1 ?_|refine zg (fun _ _=>?_)|refine zi (fun _ _=>?_))|(refine zL rfl (fun h => ?_) (fun h => ?_))|(refine c_loopV (fun (p : Nat × List Ent × List Nat × Value) w' => Ext w2 w' ∧ p.1 ≤ S.length ∧ p.2.1.length ≤ p.1 ∧ Gr w' w2.heap.size g p.2.2.1 p.2.1 ∧ SlR entR p.2.2.1 w' p.2.2.2 p.2.1) (fun p => [(1, .bool all), (2, .pointer (some ⟨b2, 0, none⟩)), (6, .pointer (some ⟨g, 0, none⟩)), (7, p.2.2.2), (18, v'), (19, .int .i64 (S.length : Nat)), (20, .int .i64 p.1)]) (fun p => S.length - p.1) (0, [], M1, .slice none 0 0) ⟨rfl, rfl, rfl, rfl, rfl, rfl, rfl, trivial⟩ ⟨x1, by simp, by simp, G1, SlR.nil _ _⟩ ?_; rintro ⟨i, l, M, u⟩ ρ w3 ⟨x3, hi, hli, G3, u3⟩; simp only at hi hli G3 u3; dsimp only; have hM3 := G3.lt; have hB3 := G3.base))
  · clear G1 x1
    have hil : i < S.length := by omega
    have hid32 : ∀ x ∈ l, x.id.size = 32 := fun x hx => by rw [(G3.ok x hx).id]; exact idT_size _
    have x03 := x2.trans x3
    have s3 := x3.size
    have hz3 : buildR.rel M w3 (bldCs z ov tv lv) z := buildR.step hz0 x03 (by simp) (fun b hb => .inr (by have := hB3 b hb; omega))
    have r23 := r2.ext x3
    refine st_elemR (d := some 23) (E := u8R) (M := M) rfl rfl (n := i) (l := S) (hv.step x03 (by simp) (fun b hb => .inr (by have := hB3 b hb; omega))) rfl hil (fun ad cs r4 he => ?_)
    obtain rfl : cs = [u8V S[i]] := he
    repeat' (first|(first|refine go1 ?_|refine zg (fun _ _=>?_)|refine zi (fun _ _=>?_))|(refine zC rfl (made_spec (M := M) (l := l) (cs := bldCs z ov tv lv) (z := z) (x := S[i]) (i := i) _ (u3.ext (by exact fx)) (R.ext hz3 (by exact fx)) (by omega) (by omega) hid32 (fun b hb => Nat.lt_of_lt_of_le (hM3 b hb) (Ext.size (by exact fx)))) ?_; rintro _ w5 ⟨ds, t, rfl, ho, hsm, x5⟩))
    have s5 := x5.size
    have t5 : txR.rel M w5 ds t := txO.rel ho hM3
    have o1 := ho.one
    obtain ⟨iv5, ov5, rfl, -⟩ := ho
    refine zE (d' := 10) (fun _=>rfl) rfl rfl o1 (fun b6 w6 x6 (a6 : At w6 b6 (.cells (txCs t iv5 ov5).toArray T.api_Tx (0, 0))) r6 hb6=>?_)
    have s6 := x6.size
    have x36 := x5.trans x6
    have x06 : Ext w2 w6 := x3.trans x36
    have t6 : txR.rel M w6 (txCs t iv5 ov5) t := R.ext t5 x6
    have G6 := G3.ext x36
    have u6 := u3.ext x36
    have hM6 : ∀ b ∈ M, b < w6.heap.size := fun b hb => by have := hM3 b hb; omega
    have l6 := a6.lt
    clear x3 x5 x6 x36 G3 u3 t5 hz3 r23 r4
    repeat' (first|(refine c_cutV (a := .seq (.reg false (.cons ⟨some 30, _, _⟩ _)) _) (fun (_ : Unit) w' => Ext w6 w') (fun _ => [(1, .bool all), (2, .pointer (some ⟨b2, 0, none⟩)), (6, .pointer (some ⟨g, 0, none⟩)), (7, u), (10, .pointer (some ⟨b6, 0, none⟩)), (18, v'), (19, .int .i64 (S.length : Nat)), (20, .int .i64 i)]) ?_ ?_; cases all)|(first|refine go1 ?_|refine zg (fun _ _=>?_)|refine zi (fun _ _=>?_))|(refine zC rfl (fits_spec (M := M) (N := M) (l := l) (cs := txCs t iv5 ov5) (t := t) _ (G6.r.ext (by exact fx)) (fun b hb => Nat.lt_of_lt_of_le (hM6 b hb) (Ext.size (by exact fx))) (R.ext t6 (by exact fx)) hsm (by omega)) ?_; rintro _ w7 ⟨rfl, x7⟩)|(refine zN rfl (fun h => ?_) (fun h => ?_))|(refine zM rfl (fun h => ?_) (fun h => ?_)))
    · exact ⟨(i + 1, l, M, u), ⟨rfl, rfl, rfl, rfl, rfl, rfl, rfl, trivial⟩, ⟨Ext.trans x06 (by exact fx), by simp; omega, by simp only; omega, G6.ext (by exact fx), u6.ext (by exact fx)⟩, by simp; omega⟩
    iterate 2
      · exact ⟨(), ⟨rfl, rfl, rfl, rfl, rfl, rfl, rfl, rfl, trivial⟩, by exact fx⟩
    rintro ⟨⟩ ρ2 w7 x7
    try dsimp only
    have t7 : txR.rel M w7 (txCs t iv5 ov5) t := R.ext t6 x7
    have G7 := G6.ext x7
    have u7 := u6.ext x7
    have hM7 : ∀ b ∈ M, b < w7.heap.size := fun b hb => Nat.lt_of_lt_of_le (hM6 b hb) x7.size
    have r67 := r6.ext x7
    have n6 : b6 ∉ M := fun h => by have := hM3 _ h; omega
    have x07 := x06.trans x7
    clear x06 r6 t6 G6 u6
    repeat' (first|(first|refine go1 ?_|refine zg (fun _ _=>?_)|refine zi (fun _ _=>?_))|(refine zC rfl (gadd_spec (M := M) (N := M) (l := l) (cs := txCs t iv5 ov5) (t := t) 1 _ G7 t7 hsm is64_one hM7 (fun _ h => h) (by omega)) ?_; rintro _ w8 ⟨M8, rfl, G8, c8, hb8⟩; have t8 : txR.rel M8 w8 (txCs t iv5 ov5) t := txR.step t7 c8 (fun b hb => .inl hb) hb8; have u8 : SlR entR M8 w8 u l := u7.step c8 (fun b hb => .inl hb) hb8; have a8 := (a6.ext x7).chg c8 n6; have r68 : Row w8 ⟨b6, 0, none⟩ (txCs t iv5 ov5) := Row.of_at a8)|(refine zC rfl (radd_spec (M := M8) (l := l) (cs := txCs t iv5 ov5) (t := t) 1 _ u8 t8 hsm is64_one (by omega) G7.ok G8.lt) ?_; rintro _ w9 ⟨u9, rfl, hu9, x9⟩))
    have hla := @addG_le l t 1
    exact ⟨(i + 1, (addG l t 1).1, M8, u9), ⟨rfl, rfl, rfl, rfl, rfl, rfl, rfl, trivial⟩, ⟨Ext.trans (show Ext w2 w8 from (Ext.chg x07 c8).mono (fun b hb => .inr (hB3 b hb))) x9, by simp; omega, by simp only; omega, G8.ext x9, hu9⟩, by simp; omega⟩
  · have ei : i = S.length := by omega
    exact x_ret rfl ⟨g, M, u, l, rfl, G3.lower s2, u3, by omega, x2.trans x3⟩
end Go.Proofs.YtfeifodeaphbjaaGreat
end
section
namespace Go.K
open Go
def tab : List (List UInt8) := [
  [3, 0, 2, 3, 4, 5, 6, 7, 11, 8, 10, 11, 12, 13, 14, 15, 19, 16, 18, 19, 20, 21, 22, 23, 27, 24, 26, 27, 28, 29, 30, 31],
  [146, 146, 190, 211, 130, 213, 214, 254, 109, 113, 209, 110, 1, 150, 248, 61, 123, 93, 108, 0, 160, 195, 75, 60, 191, 140, 16, 213, 93, 91, 97, 136],
  [170, 136, 213, 39, 70, 242, 182, 107, 155, 20, 243, 42, 190, 145, 68, 37, 40, 136, 106, 240, 138, 111, 58, 134, 246, 160, 85, 244, 79, 42, 10, 85],
  [41, 80, 105, 169, 201, 137, 165, 205, 109, 177, 78, 85, 111, 196, 181, 9, 103, 176, 63, 2, 201, 128, 237, 82, 93, 197, 81, 37, 177, 33, 140, 117],
  [166, 59, 39, 169, 224, 158, 152, 30, 22, 91, 187, 168, 24, 132, 114, 6, 219, 12, 105, 35, 7, 80, 204, 81, 73, 247, 152, 160, 111, 6, 56, 250],
  [222, 93, 183, 50, 225, 163, 52, 83, 157, 234, 146, 99, 153, 162, 237, 156, 224, 174, 159, 127, 112, 31, 233, 79, 41, 159, 104, 59, 13, 123, 183, 38],
  [116, 217, 183, 116, 5, 48, 117, 162, 55, 209, 116, 168, 131, 156, 254, 120, 221, 254, 159, 47, 4, 152, 55, 227, 108, 74, 236, 4, 6, 191, 201, 117],
  [161, 143, 149, 222, 242, 236, 171, 29, 109, 110, 198, 96, 212, 39, 229, 132, 26, 4, 225, 105, 85, 28, 223, 254, 99, 147, 255, 228, 50, 169, 16, 241],
  [12, 144, 190, 172, 116, 71, 96, 211, 51, 175, 163, 41, 194, 119, 58, 61, 44, 233, 44, 2, 158, 212, 252, 73, 167, 4, 149, 165, 187, 102, 66, 63],
  [36, 84, 139, 2, 166, 60, 222, 64, 188, 65, 71, 105, 137, 214, 2, 166, 187, 33, 155, 106, 118, 47, 211, 143, 109, 162, 138, 119, 76, 62, 93, 10],
  [32, 236, 166, 94, 152, 212, 202, 156, 113, 103, 106, 153, 128, 238, 217, 54, 146, 169, 11, 128, 104, 157, 63, 9, 204, 224, 107, 243, 224, 136, 79, 195],
  [198, 141, 170, 210, 61, 95, 243, 27, 47, 198, 114, 50, 181, 14, 89, 109, 70, 236, 253, 81, 5, 174, 79, 24, 82, 14, 97, 32, 41, 89, 173, 5],
  [194, 133, 54, 57, 219, 176, 63, 203, 76, 33, 69, 213, 116, 81, 41, 161, 33, 158, 135, 101, 232, 191, 125, 0, 71, 177, 55, 180, 60, 237, 69, 38],
  [97, 27, 94, 206, 42, 212, 131, 54, 59, 63, 157, 66, 157, 242, 206, 27, 5, 126, 129, 209, 151, 203, 139, 92, 225, 164, 242, 160, 188, 245, 53, 35],
  [96, 171, 245, 80, 16, 227, 211, 105, 23, 229, 20, 168, 144, 215, 186, 171, 10, 214, 65, 90, 88, 69, 72, 24, 176, 154, 87, 69, 208, 128, 32, 123],
  [32, 223, 190, 13, 217, 127, 206, 157, 236, 254, 221, 19, 33, 195, 39, 116, 135, 113, 224, 160, 242, 231, 110, 181, 70, 232, 67, 10, 249, 34, 148, 6],
  [60, 138, 61, 4, 114, 153, 44, 198, 164, 79, 32, 80, 63, 12, 130, 222, 103, 211, 133, 204, 68, 172, 125, 148, 23, 134, 71, 69, 246, 36, 254, 14],
  [229, 134, 60, 50, 152, 158, 116, 43, 112, 21, 230, 233, 41, 145, 36, 43, 137, 211, 51, 229, 29, 113, 132, 111, 169, 18, 198, 137, 12, 181, 218, 197],
  [224, 232, 3, 45, 253, 67, 54, 109, 193, 78, 194, 126, 127, 177, 219, 218, 63, 2, 106, 33, 75, 230, 223, 20, 33, 243, 32, 192, 152, 85, 172, 57],
  [174, 162, 119, 126, 161, 157, 128, 198, 17, 252, 181, 148, 193, 60, 18, 162, 220, 29, 68, 219, 213, 135, 136, 141, 133, 218, 134, 117, 142, 156, 204, 53],
  [46, 163, 160, 211, 193, 66, 190, 165, 164, 227, 81, 211, 107, 105, 208, 31, 215, 108, 11, 247, 246, 225, 87, 176, 150, 12, 7, 174, 146, 189, 238, 50],
  [136, 5, 221, 227, 53, 85, 182, 124, 46, 36, 207, 217, 157, 51, 159, 98, 1, 204, 58, 64, 120, 55, 163, 227, 40, 117, 203, 77, 117, 122, 231, 110],
  [104, 35, 100, 82, 83, 3, 3, 240, 92, 90, 87, 56, 170, 218, 98, 86, 33, 11, 13, 94, 228, 36, 50, 208, 194, 135, 196, 246, 25, 82, 217, 120],
  [75, 106, 146, 217, 211, 130, 112, 2, 86, 45, 135, 160, 216, 117, 148, 8, 22, 146, 239, 207, 96, 247, 209, 234, 164, 91, 40, 133, 250, 193, 99, 122],
  [194, 218, 23, 109, 60, 151, 51, 77, 165, 177, 249, 138, 26, 209, 97, 18, 71, 197, 89, 170, 66, 144, 40, 145, 16, 33, 194, 79, 173, 151, 18, 195],
  [234, 76, 17, 81, 66, 24, 153, 71, 59, 51, 76, 88, 18, 99, 24, 170, 152, 25, 115, 196, 198, 182, 245, 253, 220, 51, 137, 183, 203, 114, 199, 183]]
theorem tab_len : tab.length = 26 := rfl
theorem tab_step : ∀ k, k < 25 → shaN (((shaN ((encU (tab.getD k []) 0 k 4294967293 3 []).map UInt8.toNat)).map UInt8.ofNat).map UInt8.toNat) = (tab.getD (k + 1) []).map UInt8.toNat := by decide +kernel
theorem tab_nodup : tab.Nodup := by decide +kernel
theorem tab_size : ∀ l ∈ tab, l.length = 32 := by decide +kernel
theorem tab_zero : str (tab.getD 0 []) = idN 3 := by
  unfold idN
  congr 1
end Go.K
end
section
namespace Go.K
open Go
inductive Path (l : List Ent) : Nat → Nat → Prop
  | one {i j : Nat} : i < l.length → j < l.length → hangE l i j = true → Path l i j
  | snoc {i k j : Nat} : Path l i k → k < l.length → j < l.length → hangE l k j = true → Path l i j
variable {l : List Ent}
theorem Path.lt {i j : Nat} (h : Path l i j) : i < l.length := by
  induction h with
  | one h _ _ => exact h
  | snoc _ _ _ _ ih => exact ih
theorem Path.cons {i k j : Nat} (hi : i < l.length) (h : hangE l i k = true) (hp : Path l k j) : Path l i j := by
  induction hp with
  | one h1 h2 h3 => exact (Path.one hi h1 h).snoc h1 h2 h3
  | snoc _ h2 h3 h4 ih => exact ih.snoc h2 h3 h4
theorem Path.trans {i k j : Nat} (h1 : Path l i k) (h2 : Path l k j) : Path l i j := by
  induction h2 with
  | one g1 g2 g3 => exact h1.snoc g1 g2 g3
  | snoc _ g2 g3 g4 ih => exact ih.snoc g2 g3 g4
def aboveS (l : List Ent) (t : Tx) (j : Nat) : Bool := stepR (fun i => hangs t (entD l i)) (hangE l) l.length l.length j
def belowS (l : List Ent) (id : ByteArray) (j : Nat) : Bool := stepR (fun i => decide ((i : Int) = findI l id)) (fun k i => hangE l i k) l.length l.length j
theorem aboveS_iff {i j : Nat} (hi : i < l.length) (hj : j < l.length) : aboveS l l[i].tx j = true ↔ Path l i j := by
  have hb : ∀ k, hangs l[i].tx (entD l k) = hangE l i k := fun k => by rw [hangE, entD_get hi]
  constructor
  · intro h
    exact stepR_least (p := fun j => Path l i j) (fun k hk h => .one hi hk (by rw [← hb]; exact h)) (fun k m hk hm h1 h2 => h1.snoc hk hm h2) _ _ hj h
  · have : ∀ {a m : Nat}, Path l a m → (∀ k, hangs l[i].tx (entD l k) = hangE l a k) → aboveS l l[i].tx m = true := fun {a m} hp => by
      induction hp with
      | one h1 h2 h3 => exact fun hb => stepR_base h2 ((hb _).trans h3)
      | snoc h1 h2 h3 h4 ih => exact fun hb => stepR_closed h3 h2 (ih hb) h4
    exact fun h => this h hb
theorem findI_at {j : Nat} (hn : (l.map (·.id)).Nodup) (hj : j < l.length) : findI l l[j].id = j := by
  unfold findI
  exact idxOf_hit hj (decide_eq_true rfl) (fun i hi => decide_eq_false fun e => by
    have := entD_inj hn (show i < l.length by omega) hj (by rw [entD_get (by omega), entD_get hj]; exact e)
    omega)
theorem belowS_iff {i j : Nat} (hn : (l.map (·.id)).Nodup) (hi : i < l.length) (hj : j < l.length) : belowS l l[j].id i = true ↔ i = j ∨ Path l i j := by
  have hf := findI_at hn hj
  constructor
  · intro h
    refine stepR_least (p := fun i => i = j ∨ Path l i j) (fun k hk h => .inl ?_) (fun k m hk hm h1 h2 => .inr ?_) _ _ hi h
    · have := of_decide_eq_true h; rw [hf] at this; omega
    · rcases h1 with rfl | h1
      · exact .one hm hk h2
      · exact Path.cons hm h2 h1
  · have h0 : belowS l l[j].id j = true := stepR_base hj (decide_eq_true hf.symm)
    rintro (rfl | h)
    · exact h0
    · have : ∀ {a m : Nat}, Path l a m → belowS l l[j].id m = true → belowS l l[j].id a = true := fun {a m} hp => by
        induction hp with
        | one g1 g2 g3 => exact fun h => stepR_closed (k := _) g1 g2 h g3
        | snoc h1 g2 g3 g4 ih => exact fun h => ih (stepR_closed (k := _) g2 g3 h g4)
      exact this h h0
theorem mem_mask : ∀ {l : List Ent} {m : List Bool} {s : ByteArray}, s ∈ idsOf l m ↔ ∃ i, ∃ h : i < l.length, m[i]? = some true ∧ l[i].id = s
  | [], m, s => by
    have : idsOf [] m = [] := by cases m <;> rfl
    rw [this]; simp
  | x :: l, [], s => by
    have : idsOf (x :: l) [] = [] := rfl
    rw [this]; simp
  | x :: l, b :: m, s => by
    have e : idsOf (x :: l) (b :: m) = if b then x.id :: idsOf l m else idsOf l m := rfl
    rw [e]
    constructor
    · intro h
      by_cases hb : b = true
      · rw [if_pos hb] at h
        rcases List.mem_cons.1 h with h | h
        · exact ⟨0, by simp, by simp [hb], by simp [h]⟩
        · obtain ⟨i, hi, h1, h2⟩ := mem_mask.1 h
          exact ⟨i + 1, by simp; omega, by simpa using h1, by simpa using h2⟩
      · rw [if_neg hb] at h
        obtain ⟨i, hi, h1, h2⟩ := mem_mask.1 h
        exact ⟨i + 1, by simp; omega, by simpa using h1, by simpa using h2⟩
    · rintro ⟨i, hi, h1, h2⟩
      cases i with
      | zero =>
        simp at h1 h2
        rw [if_pos h1, h2]; simp
      | succ i =>
        have h3 : s ∈ idsOf l m := mem_mask.2 ⟨i, by simpa using hi, by simpa using h1, by simpa using h2⟩
        split
        · exact List.mem_cons_of_mem _ h3
        · exact h3
theorem mem_reach {p : Nat → Bool} {j : Nat} (hn : (l.map (·.id)).Nodup) (hj : j < l.length) : l[j].id ∈ idsOf l ((List.range l.length).map p) ↔ p j = true := by
  rw [mem_mask]
  constructor
  · rintro ⟨i, hi, h1, h2⟩
    have := entD_inj hn hi hj (by rw [entD_get hi, entD_get hj]; exact h2)
    subst this
    simpa [hi] using h1
  · intro h
    exact ⟨j, hj, by simp [hj, h], rfl⟩
def inS (ids : List ByteArray) (s : ByteArray) : Bool := ids.any fun x => decide (s = x)
theorem inS_iff {ids : List ByteArray} {s : ByteArray} : inS ids s = true ↔ s ∈ ids := by
  unfold inS
  rw [List.any_eq_true]
  exact ⟨fun ⟨y, h1, h2⟩ => by rw [of_decide_eq_true h2]; exact h1, fun h => ⟨s, h, decide_eq_true rfl⟩⟩
theorem both_eq {i j : Nat} (hn : (l.map (·.id)).Nodup) (hi : i < l.length) (hj : j < l.length) (hne : l[i].id ≠ l[j].id) : inS (idsOf l (aboveL l l[i].tx)) l[j].id = inS (idsOf l (belowL l l[j].id)) l[i].id := by
  rw [Bool.eq_iff_iff, inS_iff, inS_iff]
  have h1 : l[j].id ∈ idsOf l (aboveL l l[i].tx) ↔ aboveS l l[i].tx j = true := mem_reach hn hj
  have h2 : l[i].id ∈ idsOf l (belowL l l[j].id) ↔ belowS l l[j].id i = true := mem_reach hn hi
  rw [h1, h2, aboveS_iff hi hj, belowS_iff hn hi hj]
  constructor
  · exact .inr
  · rintro (rfl | h)
    · exact absurd rfl hne
    · exact h
theorem both_tr {i j : Nat} (hn : (l.map (·.id)).Nodup) (hi : i < l.length) (hj : j < l.length) (h : inS (idsOf l (aboveL l l[i].tx)) l[j].id = true) : ∀ s ∈ idsOf l (aboveL l l[j].tx), inS (idsOf l (aboveL l l[i].tx)) s = true := by
  intro s hs
  have h1 : l[j].id ∈ idsOf l (aboveL l l[i].tx) ↔ aboveS l l[i].tx j = true := mem_reach hn hj
  rw [inS_iff, h1, aboveS_iff hi hj] at h
  obtain ⟨k, hk, _, rfl⟩ := mem_mask.1 hs
  have h2 : l[k].id ∈ idsOf l (aboveL l l[j].tx) ↔ aboveS l l[j].tx k = true := mem_reach hn hk
  have h3 : l[k].id ∈ idsOf l (aboveL l l[i].tx) ↔ aboveS l l[i].tx k = true := mem_reach hn hk
  rw [h2, aboveS_iff hj hk] at hs
  rw [inS_iff, h3, aboveS_iff hi hk]
  exact h.trans hs
theorem both_self {i : Nat} (hn : (l.map (·.id)).Nodup) (hi : i < l.length) : inS (idsOf l (belowL l l[i].id)) l[i].id = true := by
  have h2 : l[i].id ∈ idsOf l (belowL l l[i].id) ↔ belowS l l[i].id i = true := mem_reach hn hi
  rw [inS_iff, h2, belowS_iff hn hi hi]
  exact .inl rfl
end Go.K
end
