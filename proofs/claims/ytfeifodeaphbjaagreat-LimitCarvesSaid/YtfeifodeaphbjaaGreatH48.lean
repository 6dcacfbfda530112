/- Contracts: what the laws of limits make. -/
import Derived.Test.YtfeifodeaphbjaaGreatH45
import Derived.Test.YtfeifodeaphbjaaGreatH47
set_option linter.unusedVariables false
set_option linter.unusedSimpArgs false
section
namespace Go.Proofs.YtfeifodeaphbjaaGreat
open Go Go.K
section
variable {P : Program} {d : Option Tmp} {r : KR} {K : Env → World → Prop} {ρ : Env} {w : World}
theorem st_mkSlice {x y : Operand} {t : TypeId} {size bytes : Nat} {zero : List Value} (n : Nat) (hx : ev ρ x = .int .i64 (n : Nat)) (hy : ev ρ y = .int .i64 (n : Nat)) (hn : n ≤ 1000000) (hb : bytes ≤ 1000)
    (k : ∀ b w', Ext w w' → At w' b (.cells (zeros zero n).toArray t (0, 0)) → w.heap.size ≤ b → regK P r K (put ρ d (.slice (some ⟨b, 0, none⟩) n n)) w') : regK P (.cons ⟨d, .makeSlice t size bytes zero x y, none⟩ r) K ρ w := by
  have h1 : n * bytes ≤ 1000000 * 1000 := Nat.mul_le_mul hn hb
  have h2 := Nat.mul_comm n bytes
  exact st_wp ⟨_, _, _, _, hx, hy, by omega, by omega, by omega, by omega, by
    rw [Int.toNat_natCast]
    exact k _ _ (Ext.alloc _ _) (At.new _ _) (Nat.le_refl _)⟩
end
theorem OwnR.make {α : Type} {E : R α} {M : List Nat} {w : World} {B b n : Nat} {t : TypeId} {cs : List Value} {a : α} (h : At w b (.cells (zeros cs n).toArray t (0, 0))) (hr : E.rel (b :: M) w cs a) (hB : B ≤ b) : OwnR E t B M w (.slice (some ⟨b, 0, none⟩) n n) (List.replicate n a) := by
  have e : ∀ n, (vecE E.k E.pos).flat (List.replicate n (R.vec hr)) = zeros cs n := fun n => by
    induction n with
    | zero => rfl
    | succ n ih =>
      rw [List.replicate_succ, zeros, ← ih]; rfl
  have hall : ∀ n, E.all (b :: M) w (List.replicate n (R.vec hr)) (List.replicate n a) := fun n => by
    induction n with
    | zero => exact .nil
    | succ n ih => exact .cons hr ih
  refine ⟨List.replicate n (R.vec hr), .inr ⟨b, n, [], by simp, hB, ?_, ?_⟩, hall n⟩
  · rw [e, List.append_nil]; exact h
  · rw [e, List.append_nil, zeros_length, E.len hr]; rfl
theorem wrap_u32 {n : Nat} (h : n < 4294967296) : IntKind.u32.wrap (n : Int) = n := by
  have e : IntKind.u32.wrap (n : Int) = ((n : Nat) : Int) := by simp [IntKind.wrap, IntKind.bits, IntKind.signed]; omega
  exact e
attribute [local irreducible] regK codeK retK KOp.wp K.Spec u32 leS vnS str zero32 sha2 encT idT sizeT checkT grantB idN stepR workL reachE findI dropG addG aboveL belowL idsOf feeD sizeD szOf feeOf

theorem next_spec (id : ByteArray) {i m : Nat} (hi : i < 4294967296) (hm : m < 4294967296) (M : List Nat) (w : World) (hM : ∀ b ∈ M, b < w.heap.size) :
    K.Spec Tryz.prog F.kedgelaw15_next [.string id, .int .i64 (i : Nat), .int .i64 (m : Nat)] w fun r w' => ∃ cs', r = .agg cs'.toArray ∧ txO w.heap.size M w' cs' (nxT id i m 3) ∧ Ext w w' := by
  refine s_kedgelaw15_next rfl ?_
  unfold k_kedgelaw15_next
  refine ox ?_
  repeat' (first|(refine st_fixV (d := some 9) (.int .u32 (i : Nat)) rfl (congrArg (fun n => some (Value.int .u32 n)) (wrap_u32 hi)) ?_)|(refine st_fixV (d := some 15) (.int .u32 (m : Nat)) rfl (congrArg (fun n => some (Value.int .u32 n)) (wrap_u32 hm)) ?_)|(first|refine go1 ?_|refine zg (fun _ _=>?_)|refine zi (fun _ _=>?_))|(refine zH (fun b4 w4 x4 a4 hb4 => ?_))|(refine zI (d := some 12) (cs := inCs ⟨⟨id, (i : Nat)⟩, 4294967293, []⟩ (.slice none 0 0)) rfl (fun b5 w5 x5 a5 hb5 => ?_))|(refine st_mkSlice (d := some 13) 3 rfl rfl (by decide) (by decide) (fun b6 w6 x6 a6 hb6 => ?_))|(refine st_build (d := some 16) (cs := txCs (nxT id i m 3) (.slice (some ⟨b5, 0, none⟩) 1 1) (.slice (some ⟨b6, 0, none⟩) 3 3)) rfl ?_)|(refine st_setN (w0 := w) (vs := txCs (nxT id i m 3) (.slice (some ⟨b5, 0, none⟩) 1 1) (.slice (some ⟨b6, 0, none⟩) 3 3)) (by exact fx) hb4 (by focus (repeat (first | assumption | (apply At.ext; assumption)))) rfl rfl rfl rfl rfl (fun w9 x9 c9 a9 r9 => ?_)))
  have s4 := x4.size
  have s5 := x5.size
  have l5 := a5.lt
  have l4 := a4.lt
  have a59 := (a5.ext x6).chg c9 (by simp; omega)
  have a69 := a6.chg c9 (by simp; omega)
  have o1 : OwnR inR T.api_In w.heap.size M w9 (.slice (some ⟨b5, 0, none⟩) 1 1) [⟨⟨id, (i : Nat)⟩, 4294967293, []⟩] := OwnR.make (n := 1) (cs := inCs ⟨⟨id, (i : Nat)⟩, 4294967293, []⟩ (.slice none 0 0)) (by simpa [zeros] using a59) ⟨_, rfl, SlR.nil _ _, by show is32 (i : Int); unfold is32; omega, by show is32 4294967293; unfold is32; omega⟩ (by omega)
  have o2 : OwnR outR T.api_Out w.heap.size M w9 (.slice (some ⟨b6, 0, none⟩) 3 3) (List.replicate 3 ⟨0, ⟨#[]⟩⟩) := OwnR.make (n := 3) (cs := outCs ⟨0, ⟨#[]⟩⟩) a69 ⟨rfl, is64_0⟩ (by omega)
  exact x_ret (ret1 (rv_cell r9 rfl rfl)) ⟨_, rfl, ⟨_, _, rfl, o1, o2, by show is32 2; unfold is32; omega, by show is32 (m : Int); unfold is32; omega⟩, x9⟩
structure BuildG where
  on : List UInt8
  two : List UInt8
  long : List UInt8
  fewer : Bool
def bldCs (z : BuildG) (ov tv lv : Value) : List Value := [ov, tv, lv, .bool z.fewer]
def buildR : R BuildG where
  k := 4
  pos := by decide
  ag := true
  rel := fun M w cs z => ∃ ov tv lv, cs = bldCs z ov tv lv ∧ SlR u8R M w ov z.on ∧ SlR u8R M w tv z.two ∧ SlR u8R M w lv z.long
  len := fun ⟨_, _, _, h, _⟩ => by rw [h]; rfl
  one := fun ⟨iv, ov, lv, h, h1, h2, h3⟩ v hv => by
    obtain ⟨_, _, rfl⟩ := h1.form
    obtain ⟨_, _, rfl⟩ := h2.form
    obtain ⟨_, _, rfl⟩ := h3.form
    subst h; simp [bldCs] at hv; rcases hv with rfl | rfl | rfl | rfl <;> rfl
  step := fun ⟨fv, iv, ov, h, h1, h2, h3⟩ c hL hM => ⟨fv, iv, ov, h, h1.step c hL hM, h2.step c hL hM, h3.step c hL hM⟩
theorem u8_of {n : Int} (h : 0 ≤ n ∧ n < 256) : Value.int .u8 n = u8V (UInt8.ofNat n.toNat) := by
  unfold u8V
  have : (UInt8.ofNat n.toNat).toNat = n.toNat := by rw [UInt8.toNat_ofNat']; omega
  rw [this]
  exact congrArg (Value.int .u8) (by omega)
theorem wrap8_lt (n : Int) : 0 ≤ IntKind.u8.wrap n ∧ IntKind.u8.wrap n < 256 := by
  simp [IntKind.wrap, IntKind.bits, IntKind.signed]; omega
theorem u8V_lt (x : UInt8) : (x.toNat : Int) < 256 ∧ 0 ≤ (x.toNat : Int) := by have := x.toNat_lt; omega
theorem shr5 (x : UInt8) : binVal .shr (u8V x) (.int .u64 5) = some (u8V (UInt8.ofNat (x.toNat / 32))) := by
  have h := x.toNat_lt
  have e : (((x.toNat : Nat) : Int)).fdiv 32 = ((x.toNat / 32 : Nat) : Int) := by rw [Int.fdiv_eq_ediv_of_nonneg _ (by omega)]; omega
  have e2 : binVal .shr (u8V x) (.int .u64 5) = some (.int .u8 ((x.toNat : Int).fdiv 32)) := rfl
  rw [e2, e]
  unfold u8V
  have : (UInt8.ofNat (x.toNat / 32)).toNat = x.toNat / 32 := by rw [UInt8.toNat_ofNat']; omega
  rw [this]
theorem or4 (a : UInt8) : ∃ k : UInt8, binVal .or (u8V a) (.int .u8 4) = some (u8V k) := ⟨_, congrArg some (u8_of (wrap8_lt _))⟩
theorem outs_step {B : Nat} {M L : List Nat} {w w' : World} {v : Value} {l : List TOut} (h : OwnR outR T.api_Out B M w v l) (c : Chg L w w') (hL : ∀ b ∈ L, b ∉ blkOf v) : OwnR outR T.api_Out B M w' v l := by
  obtain ⟨css, h1, h2⟩ := h
  exact ⟨css, h1.chg c fun b hb hl => hL b hl hb, h2.mono fun _ _ hr => hr⟩
theorem idx0 {ρ : Env} {x : Operand} {a : Addr} {n c k : Nat} (hx : ev ρ x = .slice (some a) n c) (h : 0 < n) : KOp.fix ρ (.indexAddr k x (.const (.int .i64 0))) = some (.pointer (some (a.add (0 * k)))) := by
  have e : ev ρ (.const (.int .i64 0)) = .int .i64 0 := rfl
  simp only [KOp.fix, hx, e]
  rw [if_pos (by omega)]; rfl
theorem tmod3 {n : Int} (h : is32 n) : is32 (n.tmod 3) := by
  unfold is32 at h ⊢
  rw [Int.tmod_eq_emod_of_nonneg (by omega)]
  omega
/-- Rows of two types are two blocks. -/
theorem two_blocks {B b : Nat} {M : List Nat} {w : World} {v : Value} {l : List TOut} {arr : List Value} (h : OwnR outR T.api_Out B M w v l) (ha : At w b (.cells arr.toArray T.api_In (0, 0))) : b ∉ blkOf v := by
  intro hb
  obtain ⟨css, h1, _⟩ := h
  rcases h1 with ⟨rfl, _⟩ | ⟨b', cap, junk, rfl, _, hat, _⟩
  · simp [blkOf] at hb
  · simp only [blkOf, List.mem_singleton] at hb
    subst hb
    unfold At at ha hat
    rw [ha] at hat
    simp only [Option.some.injEq, Obj.cells.injEq] at hat
    exact absurd hat.2.1 (by decide)
set_option maxHeartbeats 1000000 in
theorem made_spec {M : List Nat} {v : Value} {cs : List Value} {l : List Ent} {z : BuildG} {x : UInt8} {i : Nat} (w : World) (hl : SlR entR M w v l) (hz : buildR.rel M w cs z) (hi : i ≤ 1000000) (hn : l.length ≤ 100000) (hid : ∀ x ∈ l, x.id.size = 32) (hM : ∀ b ∈ M, b < w.heap.size) :
    K.Spec Tryz.prog F.kedgelaw15_made [v, .agg cs.toArray, .int .i64 (i : Nat), u8V x] w fun r w' => ∃ cs' t, r = .agg cs'.toArray ∧ txO w.heap.size M w' cs' t ∧ t.Sm ∧ Ext w w' := by
  obtain ⟨ov, tv, lv, rfl, h1, h2, h3⟩ := hz
  refine s_kedgelaw15_made rfl ?_
  unfold k_kedgelaw15_made
  refine ox ?_
  repeat' (first|(refine c_cutV (a := .seq (.reg false (.cons ⟨some 18, _, _⟩ _)) _) (σ := Small × Value) (fun q w' => Ext w w' ∧ w9.heap.size ≤ w'.heap.size ∧ At w' b9 (.cells (smallCs q.1 q.2).toArray T.kedgeref14_Small (0, 0)) ∧ At w' b8 (.cells [Value.int .u32 0, .slice none 0 0, .slice none 0 0, .int .u32 0].toArray T.api_Tx (0, 0)) ∧ At w' b5 (.cells (bldCs z ov tv lv).toArray T.kedgelaw15_Build (0, 0)) ∧ OwnR u8R T.uint8 w8.heap.size ([b9] ++ M) w' q.2 q.1.frm ∧ b9 ∉ blkOf q.2 ∧ 1 ≤ q.1.frm.length ∧ q.1.frm.length ≤ 2 ∧ q.1.fee = 0) (fun q => [(0, v), (2, .int .i64 (i : Nat)), (5, .pointer (some ⟨b5, 0, none⟩)), (8, .pointer (some ⟨b8, 0, none⟩)), (9, .pointer (some ⟨b9, 0, none⟩))]) ?_ ?_)|(refine st_bin (d := some 16) (v := u8V (UInt8.ofNat (x.toNat / 32))) rfl rfl (shr5 x) ?_)|(refine st_fixV (d := some 14) (u8V (UInt8.ofNat (IntKind.u8.wrap (i : Int)).toNat)) rfl (congrArg some (u8_of (wrap8_lt _))) ?_)|(refine st_build (d := some 17) (cs := smallCs ⟨[x], UInt8.ofNat (x.toNat / 32), 2, 0, UInt8.ofNat (IntKind.u8.wrap (i : Int)).toNat, 0⟩ (.slice (some ⟨b12, 0, none⟩) 1 1)) rfl ?_)|(first|refine go1 ?_|refine zg (fun _ _=>?_)|refine zi (fun _ _=>?_))|(refine zD rfl rfl (fun b5 w5 x5 a5 (r5 : Row w5 ⟨b5, 0, none⟩ (bldCs z ov tv lv)) hb5=>?_))|(refine zH (d := some 8) (fun b8 w8 x8 a8 hb8 => ?_))|(refine zI (d := some 12) (cs := [u8V x]) rfl (fun b12 w12 x12 a12 hb12 => ?_))|(refine zE (d' := 9) (vs := smallCs ⟨[x], UInt8.ofNat (x.toNat / 32), 2, 0, UInt8.ofNat (IntKind.u8.wrap (i : Int)).toNat, 0⟩ (.slice (some ⟨b12, 0, none⟩) 1 1)) (fun _=>rfl) rfl rfl rfl (fun b9 w9 x9 (a9 : At w9 b9 (.cells (smallCs ⟨[x], UInt8.ofNat (x.toNat / 32), 2, 0, UInt8.ofNat (IntKind.u8.wrap (i : Int)).toNat, 0⟩ (.slice (some ⟨b12, 0, none⟩) 1 1)).toArray T.kedgeref14_Small (0, 0))) r9 hb9=>?_)))
  · generalize hz0 : (⟨[x], UInt8.ofNat (x.toNat / 32), 2, 0, UInt8.ofNat (IntKind.u8.wrap (i : Int)).toNat, 0⟩ : Small) = z0 at *
    have s5 := x5.size
    have s8 := x8.size
    have s12 := x12.size
    have l5 := a5.lt
    have l8 := a8.lt
    have l12 := a12.lt
    have l9 := a9.lt
    have r59 : Row w9 ⟨b5, 0, none⟩ (bldCs z ov tv lv) := r5.ext (x8.trans (x12.trans x9))
    have a89 := a8.ext (x12.trans x9)
    have a59 := a5.ext (x8.trans (x12.trans x9))
    have x09 : Ext w w9 := x5.trans (x8.trans (x12.trans x9))
    have o9 : OwnR u8R T.uint8 w8.heap.size ([b9] ++ M) w9 (.slice (some ⟨b12, 0, none⟩) 1 1) z0.frm := by
      rw [← hz0]
      exact OwnR.make (n := 1) (cs := [u8V x]) (by simpa [zeros] using a12.ext x9) rfl (by omega)
    have d9 : b9 ∉ blkOf (.slice (some ⟨b12, 0, none⟩) 1 1) := by simp [blkOf]; omega
    have hk1 : 1 ≤ z0.frm.length ∧ z0.frm.length ≤ 2 ∧ z0.fee = 0 := by rw [← hz0]; simp
    have hk0 : z0.frm.length = 1 := by rw [← hz0]; rfl
    clear a12 x5 x8 x12 x9 r5 r9 a5 a8
    have r99 := Row.of_at a9
    obtain ⟨k4, hk4⟩ := or4 z0.idx
    repeat' (first|(refine st_append1 (d := some 39) (E := u8R) (M := [b9] ++ M) (v := .slice (some ⟨b12, 0, none⟩) 1 1) (l := z0.frm) (cs := [u8V (z.two[i]'(by omega))]) (a := z.two[i]'(by omega)) rfl rfl (o9.ext (by exact fx)) (Nat.le_trans (Nat.le_trans s12 (Nat.le_of_lt (Nat.lt_of_le_of_lt hb9 l9))) (Ext.size (w := w9) (by exact fx))) rfl rfl (by focus (repeat (first | assumption | (apply At.ext; assumption)))) rfl (by omega) (fun v14 w14 o14 c14 hb14 => ?_); have s13 : w9.heap.size ≤ w14.heap.size := Nat.le_trans (Ext.size (w := w9) (by exact fx)) c14.size; have x14 : Ext w w14 := (Ext.chg (Ext.trans x09 (by exact fx)) c14).mono (by intro q hq; simp [blkOf] at hq; subst hq; right; omega); have a914 : At w14 b9 (.cells (smallCs z0 (.slice (some ⟨b12, 0, none⟩) 1 1)).toArray T.kedgeref14_Small (0, 0)) := At.chg c14 (At.ext (show Ext w9 _ by exact fx) a9) (by simp [blkOf]; omega); have a814 := At.chg c14 (At.ext (show Ext w9 _ by exact fx) a89) (by simp [blkOf]; omega); have a514 := At.chg c14 (At.ext (show Ext w9 _ by exact fx) a59) (by simp [blkOf]; omega); have d914 : b9 ∉ blkOf v14 := fun h => (hb14 _ h).elim d9 (fun h => absurd l9 (Nat.not_lt.2 (Nat.le_trans (Ext.size (w := w9) (by exact fx)) h))))|(refine st_store (d := none) (b := b9) (o := 0) (v := v14) (cur := smallCs z0 (.slice (some ⟨b12, 0, none⟩) 1 1)) rfl rfl o14.one a914 (Nat.le_of_ble_eq_true rfl) (fun w15 c15 a15 => ?_); have r15 : Row w15 ⟨b9, 0, none⟩ (smallCs z0 v14) := Row.of_at a15)|(refine st_bin (d := some 43) (v := u8V k4) rfl rfl hk4 ?_)|(refine st_store (d := none) (b := b9) (o := 1) (v := u8V k4) (cur := smallCs z0 v14) rfl rfl rfl a15 (Nat.le_of_ble_eq_true rfl) (fun w16 c16 a16 => ?_))|(first|refine go1 ?_|refine zg (fun _ _=>?_)|refine zi (fun _ _=>?_))|(refine zG (E := u8R) (M := M) (l := z.two) rfl (SlR.ext h2 (by exact fx)) ?_)|(refine zJ rfl (fun h => ?_) (fun h => ?_))|(refine zL rfl (fun h => ?_) (fun h => ?_))|(refine st_elemR (d := some 27) (E := u8R) (M := M) rfl rfl (n := i) (l := z.two) (SlR.ext h2 (by exact fx)) rfl (by omega) (fun ad cs r6 he => ?_); obtain rfl : cs = [u8V (z.two[i]'(by omega))] := he)|(refine st_elemR (d := some 36) (E := u8R) (M := M) rfl rfl (n := i) (l := z.two) (SlR.ext h2 (by exact fx)) rfl (by omega) (fun ad cs r6 he => ?_); obtain rfl : cs = [u8V (z.two[i]'(by omega))] := he)|(refine zB ?_ ?_)|(refine zI (d := some 38) (cs := [u8V (z.two[i]'(by omega))]) rfl (fun b13 w13 x13 a13 hb13 => ?_)))
    iterate 2
      · have c16' := c15.trans c16
        exact ⟨(⟨z0.frm ++ [z.two[i]'(by omega)], k4, z0.outs, z0.fee, z0.mark, z0.long⟩, v14), ⟨rfl, rfl, rfl, rfl, rfl, trivial⟩, ⟨(Ext.chg x14 c16').mono (fun b hb => .inr (by simp at hb; omega)), Nat.le_trans s13 c16'.size, a16, a814.chg c16' (by simp; omega), a514.chg c16' (by simp; omega), o14.step c16' (fun b hb => ⟨by simp at hb; subst hb; exact d914, .inl (by simp at hb; simp [hb])⟩) (fun b hb => .inl hb), d914, by simp, by simp; omega, hk1.2.2⟩⟩
    iterate 2
      · exact ⟨(z0, .slice (some ⟨b12, 0, none⟩) 1 1), ⟨rfl, rfl, rfl, rfl, rfl, trivial⟩, ⟨Ext.trans x09 (by exact fx), Ext.size (w := w9) (by exact fx), At.ext (show Ext w9 _ by exact fx) a9, At.ext (show Ext w9 _ by exact fx) a89, At.ext (show Ext w9 _ by exact fx) a59, OwnR.ext o9 (by exact fx), d9, hk1⟩⟩
  · rintro ⟨sa1, f1⟩ ρ2 w13 ⟨x13, s13, b91, b81, b51, o13, d13, hf13⟩
    try simp only at b91 o13 d13 hf13
    try dsimp only
    have r13 := Row.of_at b91
    have r513 := Row.of_at b51
    have s5 := x5.size
    have s8 := x8.size
    have s12 := x12.size
    have l8 := a8.lt
    have l9 := a9.lt
    clear a9 r9 a12 a8 a5 x9 x12 x5 x8 r5
    repeat' (first|(refine c_cutV (a := .seq (.reg false (.cons ⟨some 45, _, _⟩ _)) _) (σ := Small) (fun sa2 w' => Ext w w' ∧ w9.heap.size ≤ w'.heap.size ∧ At w' b9 (.cells (smallCs sa2 f1).toArray T.kedgeref14_Small (0, 0)) ∧ At w' b8 (.cells [Value.int .u32 0, .slice none 0 0, .slice none 0 0, .int .u32 0].toArray T.api_Tx (0, 0)) ∧ OwnR u8R T.uint8 w8.heap.size ([b9] ++ M) w' f1 sa2.frm ∧ 1 ≤ sa2.frm.length ∧ sa2.frm.length ≤ 2 ∧ sa2.fee = 0) (fun _ => [(0, v), (8, .pointer (some ⟨b8, 0, none⟩)), (9, .pointer (some ⟨b9, 0, none⟩))]) ?_ ?_; rotate_left; (rintro sa2 ρ3 w17 ⟨x17, s17, b917, b817, o17, hf17⟩; try dsimp only); have r17 := Row.of_at b917; clear x13 b91 b81 b51 o13 r13 r513; rotate_left)|(first|refine go1 ?_|refine zg (fun _ _=>?_)|refine zi (fun _ _=>?_))|(refine zG (E := u8R) (M := M) (l := z.long) rfl (SlR.ext h3 (by exact fx)) ?_)|(refine zJ rfl (fun h => ?_) (fun h => ?_))|(refine zL rfl (fun h => ?_) (fun h => ?_))|(refine zK rfl (fun h => ?_) (fun h => ?_))|(refine zM rfl (fun h => ?_) (fun h => ?_))|(refine st_store (d := none) (b := b9) (o := 5) (v := u8V (z.long[i]'(by omega))) (cur := smallCs sa1 f1) rfl rfl rfl b91 (Nat.le_of_ble_eq_true rfl) (fun w16 c16 a16 => ?_))|(refine st_elemR (d := some 58) (E := u8R) (M := M) rfl rfl (n := i) (l := z.long) (SlR.ext h3 (by exact fx)) rfl (by omega) (fun ad cs r6 he => ?_); obtain rfl : cs = [u8V (z.long[i]'(by omega))] := he))
    · exact ⟨⟨sa1.frm, sa1.idx, sa1.outs, sa1.fee, sa1.mark, z.long[i]'(by omega)⟩, ⟨rfl, rfl, rfl, trivial⟩, ⟨(Ext.chg x13 c16).mono (fun b hb => .inr (by simp at hb; omega)), Nat.le_trans s13 c16.size, a16, b81.chg c16 (by simp; omega), o13.step c16 (fun b hb => ⟨by simp at hb; subst hb; exact d13, .inl (by simp at hb; simp [hb])⟩) (fun b hb => .inl hb), hf13⟩⟩
    iterate 2
      · exact ⟨sa1, ⟨rfl, rfl, rfl, trivial⟩, ⟨x13, s13, b91, b81, o13, hf13⟩⟩
    have s17' := x17.size
    have f17 : SlR u8R ([b8] ++ M) w17 f1 sa2.frm := SlE.toR (F := u8E) (ag := false) (OwnR.toOwn (F := u8E) (ag := false) o17).sl (fun b hb hm => by
      have := o17.base b hb
      simp only [List.mem_append, List.mem_singleton] at hm
      rcases hm with rfl | hm
      · omega
      · have := hM b hm; omega)
    have hl17 : SlR entR ([b8] ++ M) w17 v l := hl.step x17 (by simp) (mem_app fun b hb => by simp at hb; omega)
    have hM17 : ∀ b ∈ [b8] ++ M, b < w17.heap.size := fun b hb => by
      rcases List.mem_append.1 hb with h | h
      · simp at h; omega
      · have := hM b h; omega
    have hfee : is64 sa2.fee := by rw [hf17.2.2]; exact is64_0
    refine zC rfl (make_spec (M := [b8] ++ M) (l := l) (cs := smallCs sa2 f1) (z := sa2) _ hl17 ⟨f1, rfl, f17, hfee⟩ hn (by omega) hid hM17) ?_
    rintro _ w18 ⟨ds, t, rfl, ho, hmd, x18⟩
    have hsm := hmd.sm
    have hins := hmd.ins
    have d1 := ho.one
    obtain ⟨iv, ov2, rfl, p1, p2, p3⟩ := ho
    refine zE (d' := 10) (fun _=>rfl) rfl rfl d1 (fun b10 w19 x19 (a10 : At w19 b10 (.cells (txCs t iv ov2).toArray T.api_Tx (0, 0))) r10 hb10=>?_)
    have p2' := p2.ext x19
    obtain ⟨bi, cap, css, junk, rfl, hBi, hat, hcl, hln, hall, hsl⟩ := (p1.ext x19).open (by omega)
    obtain ⟨wv, ec, hwi, hp5, hp6⟩ := hall.get 0 (by omega) (by omega)
    have n2 := two_blocks p2' hat
    have li := p1.lt bi (by simp [blkOf])
    have l10 := a10.lt
    repeat' (first|(refine st_elemE (d := some 66) (E := vecE inR.k inR.pos) rfl rfl (n := 0) (l := css) hsl rfl (by omega) (fun ad r5 => ?_); have r5 : Row w19 ad (inCs t.ins[0] wv) := (by rw [← ec]; exact r5))|(refine st_fixV (d := some 71) (.pointer (some (Addr.add ⟨bi, 0, none⟩ (0 * 4)))) rfl (idx0 rfl (by omega)) ?_)|(first|refine go1 ?_|refine zg (fun _ _=>?_)|refine zi (fun _ _=>?_)))
    refine st_storeO (d := none) (E := inR) (t := T.api_In) (B := w17.heap.size) (M := [b8] ++ M) (b := bi) (cap := cap) (i := 0) (o := 1) (l := t.ins) (css := css) (junk := junk) (u := .int .u32 (t.ins[0].p.i.tmod 3)) (a := ⟨⟨t.ins[0].p.s, t.ins[0].p.i.tmod 3⟩, t.ins[0].q, t.ins[0].wit⟩) (by show Value.pointer (some (((Addr.add ⟨bi, 0, none⟩ (0 * 4)).add 0).add 1)) = _; rw [add_zero]; rfl) rfl rfl hBi hat hcl hln hall (by omega) (by decide) (fun w20 c20 => ?_) (fun w20 c20 o20 => ?_)
    · refine ⟨wv, by rw [ec]; rfl, hwi.step c20 (fun b hb => .inl (by simp at hb; simp [hb])) (fun b hb => .inl hb), tmod3 hp5, hp6⟩
    · have a20 := a10.chg c20 (by simp; omega)
      have r20 : Row w20 ⟨b10, 0, none⟩ (txCs t (.slice (some ⟨bi, 0, none⟩) t.ins.length cap) ov2) := Row.of_at a20
      have o2 := outs_step p2' c20 (fun b hb => by simp at hb; subst hb; exact n2)
      have x20 : Ext w w20 := (Ext.chg (x17.trans (x18.trans x19)) c20).mono (fun b hb => .inr (by simp at hb; subst hb; have := x17.size; omega))
      have b820 := (b817.ext (x18.trans x19)).chg c20 (by simp; have := x17.size; omega)
      repeat' (first|refine go1 ?_|refine zg (fun _ _=>?_)|refine zi (fun _ _=>?_))
      refine st_setN (w0 := w) (vs := txCs ⟨t.ver, t.ins.set 0 ⟨⟨t.ins[0].p.s, t.ins[0].p.i.tmod 3⟩, t.ins[0].q, t.ins[0].wit⟩, t.outs, t.lock⟩ (.slice (some ⟨bi, 0, none⟩) t.ins.length cap) ov2) x20 (by omega) b820 rfl rfl rfl rfl d1 (fun w21 x21 c21 a21 r21 => ?_)
      repeat' (first|refine go1 ?_|refine zg (fun _ _=>?_)|refine zi (fun _ _=>?_))
      refine x_ret (ret1 (rv_cell r21 rfl rfl)) ⟨_, ⟨t.ver, t.ins.set 0 ⟨⟨t.ins[0].p.s, t.ins[0].p.i.tmod 3⟩, t.ins[0].q, t.ins[0].wit⟩, t.outs, t.lock⟩, rfl, txO.lower (txO.off (B := w17.heap.size) (w := w20) ⟨_, _, rfl, o20, o2, p3⟩ (by omega) c21) s17', ?_, x21⟩
      refine ⟨by simp only [List.length_set]; exact hsm.ins, hsm.outs, fun y hy => ?_⟩
      rcases List.mem_or_eq_of_mem_set hy with h | h
      · exact hsm.wit y h
      · subst h; exact hsm.wit t.ins[0] (List.getElem_mem (by omega))
end Go.Proofs.YtfeifodeaphbjaaGreat
end
