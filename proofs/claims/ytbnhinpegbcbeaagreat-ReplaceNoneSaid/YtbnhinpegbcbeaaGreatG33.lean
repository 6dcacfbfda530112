/- Contracts: dropping from a graph. Contracts: a graph of any entries. Contracts: a graph of any entries, as the laws of trimming make it; masked numbers. Contracts: the transaction of an act, of the laws of replacing. What comes into the laws of replacing. Contracts: dropping from a graph, beside blocks to which none of its entries leads. Contracts: what hangs on an entry, by the reference. -/
import Derived.Test.YtbnhinpegbcbeaaGreatG31
import Derived.Test.YtbnhinpegbcbeaaGreatG32
set_option linter.unusedVariables false
set_option linter.unusedSimpArgs false
section
namespace Go.Proofs.YtbnhinpegbcbeaaGreat
open Go Go.K
attribute [local irreducible] regK codeK retK KOp.wp K.Spec u32 leS vnS str zero32 sha2 encT idT sizeT checkT grantB idN stepR workL reachE findI

end Go.Proofs.YtbnhinpegbcbeaaGreat
end
section
namespace Go.Proofs.YtbnhinpegbcbeaaGreat
open Go Go.K
attribute [local irreducible] regK codeK retK KOp.wp K.Spec u32 leS vnS str zero32 sha2 encT idT sizeT checkT grantB idN stepR workL reachE findI dropG addG

def feeA (a : Int) : Int := IntKind.i64.wrap ((BitVec.ofInt IntKind.i64.bits a &&& BitVec.ofInt IntKind.i64.bits 65535).toNat : Nat)
section
variable {P : Program} {d : Option Tmp} {r : KR} {K : Env → World → Prop} {ρ : Env} {w : World}
theorem st_takeR {α : Type} {E : R α} {M : List Nat} {size : Nat} {x h : Operand} {v : Value} {l : List α} {kd : IntKind} {n : Nat} {m : Int} {w1 : World} (hx : ev ρ x = v) (hh : ev ρ h = .int kd m) (hm : m = (n : Nat)) (hs : SlR E M w1 v l) (hn : n ≤ l.length) (hk : size = E.k)
    (k : ∀ v', SlR E M w1 v' (l.take n) → regK P r K (put ρ d v') w) : regK P (.cons ⟨d, .sliceSl size x none (some h), none⟩ r) K ρ w := by
  subst hm
  obtain ⟨css, h1, h2, h3⟩ := hs
  have hl := h2.length
  refine st_takeE (E := vecE E.k E.pos) hx hh h1 (by rw [hl]; exact hn) hk fun v' h4 h5 => k v' ⟨css.take n, h4, ?_, fun hp b hb => h3 (by rw [List.length_take] at hp; omega) b (h5 b hb)⟩
  have := h2.take n
  exact All2.take n h2
end
theorem addG_le {l : List Ent} {t : Tx} {fee : Int} : (addG l t fee).1.length ≤ l.length + 1 := by
  unfold addG
  split; · simp
  split; · simp
  split; · simp
  split; · simp
  split <;> simp
end Go.Proofs.YtbnhinpegbcbeaaGreat
end
section
namespace Go.Proofs.YtbnhinpegbcbeaaGreat
open Go Go.K
attribute [local irreducible] regK codeK retK KOp.wp K.Spec u32 leS vnS str zero32 sha2 encT idT sizeT checkT grantB idN stepR workL reachE findI dropG addG

def andI (a m : Int) : Int := IntKind.i64.wrap ((BitVec.ofInt IntKind.i64.bits a &&& BitVec.ofInt IntKind.i64.bits m).toNat : Nat)
theorem andI_le (a : Int) {m : Int} (h0 : 0 ≤ m) (h1 : m ≤ 9223372036854775807) : 0 ≤ andI a m ∧ andI a m ≤ m := by
  unfold andI
  have h2 : (BitVec.ofInt IntKind.i64.bits a &&& BitVec.ofInt IntKind.i64.bits m).toNat ≤ m.toNat := by
    rw [BitVec.toNat_and]
    refine Nat.le_trans Nat.and_le_right ?_
    rw [BitVec.toNat_ofInt]
    have : IntKind.i64.bits = 64 := rfl
    rw [this]; omega
  rw [IntWalk.i64_in _ (by omega)]
  omega
theorem andI_64 (a : Int) {m : Int} (h0 : 0 ≤ m) (h1 : m ≤ 9223372036854775807) : is64 (andI a m) := by
  have := andI_le a h0 h1
  unfold is64; omega
abbrev smR : R Small := smallR.and fun z => z.frm.length ≤ 9223372036854775807
def cutZ (n : Nat) (m : Int) (z : Small) : Small := { z with long := UInt8.ofNat (z.long.toNat % n), fee := andI z.fee m }
theorem cutZ_v (n : Nat) (m : Int) (z : Small) (hn : 0 < n) (h : n ≤ 256) : (Value.int .u8 ((z.long.toNat % n : Nat) : Int)) = u8V (cutZ n m z).long := by
  unfold u8V cutZ
  have h1 : z.long.toNat % n < n := Nat.mod_lt _ hn
  have : (UInt8.ofNat (z.long.toNat % n)).toNat = z.long.toNat % n := by rw [UInt8.toNat_ofNat']; omega
  simp only [this]
end Go.Proofs.YtbnhinpegbcbeaaGreat
end
section
namespace Go.Proofs.YtbnhinpegbcbeaaGreat
open Go Go.K
attribute [local irreducible] regK codeK retK KOp.wp K.Spec u32 leS vnS str zero32 sha2 encT idT sizeT checkT grantB idN stepR workL reachE findI dropG addG
/-- An entry that is added as plain data. -/
structure ActP where
  sm : Small
  fin : Bool
def actpCs (a : ActP) (fv : Value) : List Value := [fv, u8V a.sm.idx, u8V a.sm.outs, .int .i64 a.sm.fee, u8V a.sm.mark, u8V a.sm.long, .bool a.fin]
def actpR : R ActP where
  k := 7
  pos := by decide
  ag := true
  rel := fun M w cs a => ∃ fv, cs = actpCs a fv ∧ SlR u8R M w fv a.sm.frm ∧ is64 a.sm.fee ∧ a.sm.frm.length ≤ 9223372036854775807
  len := fun ⟨_, h, _⟩ => by rw [h]; rfl
  one := fun ⟨fv, h, hs, _⟩ v hv => by
    obtain ⟨b, c, rfl⟩ := hs.form
    subst h; simp [actpCs] at hv; rcases hv with rfl | rfl | rfl | rfl | rfl | rfl | rfl <;> rfl
  step := fun ⟨fv, h, hs, h2⟩ c hL hM => ⟨fv, h, hs.step c hL hM, h2⟩
theorem OwnR.outs {t : TypeId} {B : Nat} {M M' : List Nat} {w : World} {v : Value} {l : List TOut} (h : OwnR outR t B M w v l) : OwnR outR t B M' w v l := by
  obtain ⟨css, h1, h2⟩ := h
  exact ⟨css, h1, h2.mono fun _ _ hr => hr⟩
theorem own_apart {α β : Type} {E : R α} {F : R β} {t u : TypeId} {B B' : Nat} {M M' : List Nat} {w : World} {v v' : Value} {l : List α} {l' : List β} (h : OwnR E t B M w v l) (h' : OwnR F u B' M' w v' l') (hne : t ≠ u) : ∀ b ∈ blkOf v, b ∉ blkOf v' := by
  obtain ⟨css, h1, -⟩ := h
  obtain ⟨css', h1', -⟩ := h'
  rcases h1 with ⟨rfl, -⟩ | ⟨b, cap, junk, rfl, -, hat, -⟩
  · simp [blkOf]
  · rcases h1' with ⟨rfl, -⟩ | ⟨b', cap', junk', rfl, -, hat', -⟩
    · simp [blkOf]
    · intro y hy hy'
      simp [blkOf] at hy hy'
      rw [hy] at hy'
      subst hy'
      have := hat.inj hat'
      injection this with _ h2 _
      exact hne h2
theorem no_grant {t : Tx} (h : ∀ x ∈ t.ins, x.p.i < 4) : grantB t = false := by
  unfold grantB
  by_cases h1 : t.ins.length = 1
  · obtain ⟨x, hx⟩ : ∃ x, t.ins = [x] := List.length_eq_one_iff.1 h1
    have h2 := h x (by rw [hx]; simp)
    have : isBase x.p = false := by
      unfold isBase
      have : ¬ x.p.i = baseP.i := by show ¬ x.p.i = 4294967295; omega
      rw [decide_eq_false this, Bool.and_false]
    rw [hx]
    show (_ && isBase x.p) = false
    rw [this, Bool.and_false]
  · rw [decide_eq_false h1, Bool.false_and]
theorem sm_set {t : Tx} {l : List TIn} (hs : t.Sm) (h1 : l.length = t.ins.length) (h2 : ∀ x ∈ l, x.wit.length ≤ 1000) : ({ t with ins := l } : Tx).Sm := ⟨by have := hs.ins; show l.length ≤ 1000; omega, hs.outs, h2⟩
def modZ (n : Nat) (z : Small) : Small := { z with long := UInt8.ofNat (z.long.toNat % n) }
theorem modZ_v (n : Nat) (z : Small) (hn : 0 < n) (h : n ≤ 256) : (Value.int .u8 ((z.long.toNat % n : Nat) : Int)) = u8V (modZ n z).long := cutZ_v n 0 z hn h
set_option maxHeartbeats 4000000 in
theorem of16g_spec {M : List Nat} {v : Value} {cs : List Value} {l : List Ent} {a : ActP} (w : World) (hl : SlR entR M w v l) (ha : actpR.rel M w cs a) (hn : l.length ≤ 100000) (hid : ∀ x ∈ l, x.id.size = 32) (hM : ∀ b ∈ M, b < w.heap.size) :
    K.Spec Tryz.prog F.kedgelaw16_of [v, .agg cs.toArray] w fun r w' => ∃ cs' t, r = .agg cs'.toArray ∧ txO w.heap.size M w' cs' t ∧ t.Sm ∧ grantB t = false ∧ Ext w w' := by
  obtain ⟨fv, rfl, q1, q2, q3⟩ := ha
  have i1 := q1.one
  refine s_kedgelaw16_of rfl ?_
  unfold k_kedgelaw16_of
  refine ox ?_
  repeat' (first|(refine st_bin (d := some 12) rfl rfl (rem_u8 a.sm.long.toNat 4 (by decide)) ?_; rw [modZ_v 4 a.sm (by decide) (by decide)])|(first|refine go1 ?_|refine zg (fun _ _=>?_)|refine zi (fun _ _=>?_))|(refine zD rfl rfl (fun bp wp xp ap (rp : Row wp ⟨bp, 0, none⟩ (actpCs a fv)) hp0=>?_))|(refine zH (d := some 4) (fun b4 w4 x4 a4 hb4 => ?_))|(refine zE (d' := 5) (fun _=>rfl) rfl rfl (by obtain ⟨_, _, rfl⟩ := q1.form; rfl) (fun b5 w5 x5 (a5 : At w5 b5 (.cells (smallCs a.sm fv).toArray T.kedgeref14_Small (0, 0))) (r5 : Row w5 ⟨b5, 0, none⟩ (smallCs a.sm fv)) hb5=>?_)))
  have s5 := x5.size
  have s4 := x4.size
  have sp := xp.size
  have l5 := a5.lt
  have l4 := a4.lt
  have lp := ap.lt
  refine st_store (b := b5) (o := 5) (v := u8V (modZ 4 a.sm).long) rfl rfl rfl a5 (by simp [smallCs]) (fun w6 c6 a6 => ?_)
  have r6 : Row w6 ⟨b5, 0, none⟩ (smallCs (modZ 4 a.sm) fv) := Row.of_at a6
  have x46 : Ext w4 w6 := (Ext.chg x5 c6).mono (by intro y hy; simp at hy; right; omega)
  have x06 : Ext w w6 := (xp.trans x4).trans x46
  have s6 := c6.size
  obtain ⟨M4, hM4⟩ : ∃ M4, M4 = b4 :: M := ⟨_, rfl⟩
  have m4 : b4 ∈ M4 := by rw [hM4]; simp
  have mM : ∀ b ∈ M, b ∈ M4 := fun b hb => by rw [hM4]; simp [hb]
  have mB : ∀ b ∈ M4, b ∈ M ∨ w.heap.size ≤ b := fun b hb => by
    rw [hM4] at hb
    rcases List.mem_cons.1 hb with h | h
    · exact .inr (by omega)
    · exact .inl h
  have hM6 : ∀ b ∈ M4, b < w6.heap.size := fun b hb => by
    rw [hM4] at hb
    rcases List.mem_cons.1 hb with h | h
    · omega
    · have := hM b h; omega
  have a46 := a4.ext x46
  have ap6 := (ap.ext x4).ext x46
  have l6 := hl.step x06 (by simp) mB
  have q6 := q1.step x06 (by simp) mB
  clear rp r5 a5 a6 c6 x5 x46 xp x4 a4 ap hl
  repeat' (first|(first|refine go1 ?_|refine zg (fun _ _=>?_)|refine zi (fun _ _=>?_))|(refine zC rfl (make_spec (M := M4) (l := l) (cs := smallCs (modZ 4 a.sm) fv) (z := modZ 4 a.sm) _ (l6.ext (by exact fx)) ⟨fv, rfl, q6.ext (by exact fx), q2⟩ (by omega) q3 hid hM6) ?_; rintro _ w7 ⟨ds, t, rfl, ho, hmd, x7⟩))
  have s7 := x7.size
  have hsm := hmd.sm
  have o1 := ho.one
  obtain ⟨iv, ov, rfl, hi7, ho7, hv1, hv2⟩ := ho
  refine zE (d' := 6) (fun _=>rfl) rfl rfl o1 (fun b8 w8 x8 (a8 : At w8 b8 (.cells (txCs t iv ov).toArray T.api_Tx (0, 0))) r8 hb8=>?_)
  have s8 := x8.size
  have l8 := a8.lt
  have g1 := hi7.base
  have g2 := ho7.base
  have t1 := hi7.lt
  have t2 := ho7.lt
  have hap := own_apart hi7 ho7 (by decide)
  have n8 : b8 ∉ blkOf iv := fun h => by have := t1 _ h; omega
  have n8o : b8 ∉ blkOf ov := fun h => by have := t2 _ h; omega
  have n4 : b4 ∉ blkOf iv := fun h => by have := g1 _ h; omega
  have np : bp ∉ blkOf iv := fun h => by have := g1 _ h; omega
  have x68 : Ext w6 w8 := x7.trans x8
  have a48 := a46.ext x68
  have ap8 := ap6.ext x68
  have hi8 := hi7.ext x8
  have ho8 : OwnR outR T.api_Out w6.heap.size (blkOf iv) w8 ov t.outs := OwnR.outs (ho7.ext x8)
  have x08 : Ext w w8 := x06.trans x68
  clear r6 x7 x8 x68 a46 ap6 x06 hi7 ho7 l6 q6
  repeat' (first|(first|refine go1 ?_|refine zg (fun _ _=>?_)|refine zi (fun _ _=>?_))|(refine zG (d := some 19) (E := inR) (M := M4) (l := t.ins) rfl (SlR.ext (hi8.slB hM6) (by exact fx)) ?_)|(refine c_loopV (fun (p : Nat × List TIn) w' => Ext w w' ∧ w8.heap.size ≤ w'.heap.size ∧ p.1 ≤ t.ins.length ∧ p.2.length = t.ins.length ∧ (∀ x ∈ p.2, x.wit.length ≤ 1000 ∧ x.p.i < 4) ∧ At w' bp (.cells (actpCs a fv).toArray T.kedgelaw16_Act (0, 0)) ∧ At w' b4 (.cells [Value.int .u32 0, .slice none 0 0, .slice none 0 0, .int .u32 0].toArray T.api_Tx (0, 0)) ∧ At w' b8 (.cells (txCs t iv ov).toArray T.api_Tx (0, 0)) ∧ OwnR inR T.api_In w6.heap.size M4 w' iv p.2 ∧ OwnR outR T.api_Out w6.heap.size (blkOf iv) w' ov t.outs) (fun p => [(3, .pointer (some ⟨bp, 0, none⟩)), (4, .pointer (some ⟨b4, 0, none⟩)), (6, .pointer (some ⟨b8, 0, none⟩)), (19, .int .i64 (t.ins.length : Nat)), (20, .int .i64 p.1)]) (fun p => t.ins.length - p.1) (0, t.ins) ⟨rfl, rfl, rfl, rfl, rfl, trivial⟩ ⟨x08, Nat.le_refl _, by simp, rfl, (fun x hx => ⟨hsm.wit x hx, (hmd.each x hx).hi⟩), ap8, a48, a8, hi8, ho8⟩ ?_; rintro ⟨i, L⟩ ρ w9 ⟨x9, s9, hi, hL, hLw, ap9, a49, a89, hi9, ho9⟩; simp only at hi hL hLw hi9; dsimp only; have rp9 : Row w9 ⟨bp, 0, none⟩ (actpCs a fv) := Row.of_at ap9; have r89 : Row w9 ⟨b8, 0, none⟩ (txCs t iv ov) := Row.of_at a89)|(refine zL rfl (fun h => ?_) (fun h => ?_)))
  · have hil : i < t.ins.length := by omega
    have hsi := hsm.ins
    have hiL : i < L.length := by rw [hL]; exact hil
    have x9u : Unit → Ext w w9 := fun _ => x9
    clear x9 x08 ap8 a48 a8 hi8 ho8
    repeat' (first|(first|refine go1 ?_|refine zg (fun _ _=>?_)|refine zi (fun _ _=>?_))|refine zM rfl (fun h => ?_) (fun h => ?_))
    · obtain ⟨b1, cap, css, junk, rfl, hB, hat, hc, hln, hall, hsl⟩ := hi9.open (by omega)
      obtain ⟨wv, hcs, hw, hp5, hp6⟩ := hall.get i (by omega) (by omega)
      repeat' (first|(refine st_index (d := some 28) rfl rfl (by omega) ?_)|(first|refine go1 ?_|refine zg (fun _ _=>?_)|refine zi (fun _ _=>?_)))
      refine st_storeO (E := inR) (M := M4) (B := w6.heap.size) (l := L) (i := i) (o := 2) (u := .int .u32 4294967294) (a := { L[i] with q := 4294967294 }) (css := css) (junk := junk) (cap := cap) rfl rfl rfl hB hat hc hln hall (by omega) (by decide) (fun w10 c10 => ?_) (fun w10 c10 o10 => ?_)
      · exact ⟨wv, by rw [hcs]; rfl, hw.step c10 (by intro y hy; simp at hy; subst hy; simp) (fun b hb => .inl hb), hp5, by show is32 4294967294; unfold is32; omega⟩
      · have e1 : b1 ≠ b8 := fun e => n8 (by rw [← e]; simp [blkOf])
        have e2 : b1 ≠ b4 := fun e => n4 (by rw [← e]; simp [blkOf])
        have e3 : b1 ≠ bp := fun e => np (by rw [← e]; simp [blkOf])
        have e4 : b1 ∉ blkOf ov := hap b1 (by simp [blkOf])
        have s10 := c10.size
        have a8' := At.chg c10 a89 (by simp; omega)
        have a4' := At.chg c10 a49 (by simp; omega)
        have ap' := At.chg c10 ap9 (by simp; omega)
        have ho' := ho9.step c10 (M' := blkOf (.slice (some ⟨b1, 0, none⟩) L.length cap)) (by intro y hy; simp at hy; subst hy; exact ⟨e4, .inl (by simp [blkOf])⟩) (fun _ h => .inl h)
        have x10 : Ext w w10 := ((x9u ()).chg c10).mono (by intro y hy; simp at hy; right; omega)
        repeat (first|refine go1 ?_|refine zg (fun _ _=>?_)|refine zi (fun _ _=>?_))
        refine ⟨(i + 1, L.set i { L[i] with q := 4294967294 }), ⟨rfl, rfl, rfl, rfl, rfl, trivial⟩, ⟨x10, by omega, by simp only; omega, by simp only [List.length_set]; exact hL, ?_, ap', a4', a8', o10, ho'⟩, by simp only; omega⟩
        intro x hx
        rcases List.mem_or_eq_of_mem_set hx with h1 | h1
        · exact hLw x h1
        · rw [h1]; exact hLw L[i] (List.getElem_mem _)
    · exact ⟨(i + 1, L), ⟨rfl, rfl, rfl, rfl, rfl, trivial⟩, ⟨x9u (), s9, by simp only; omega, hL, hLw, ap9, a49, a89, hi9, ho9⟩, by simp only; omega⟩
  · refine st_setN (w0 := w) (vs := txCs t iv ov) x9 (by omega) a49 rfl rfl rfl rfl (by have e1 := hi9.one; have e2 := ho9.one; simp [txCs, e1, e2]; exact ⟨rfl, rfl⟩) (fun w11 x11 c11 a11 r11 => ?_)
    repeat (first|refine go1 ?_|refine zg (fun _ _=>?_)|refine zi (fun _ _=>?_))
    have p1 := hi9.step (M' := M) c11 (by intro y hy; simp at hy; subst hy; exact ⟨n4, .inl m4⟩) (fun b h => .inl (mM b h))
    have p2 := (OwnR.outs (M' := b4 :: M) ho9).step (M' := M) c11 (by intro y hy; simp at hy; subst hy; exact ⟨fun h => by have := g2 _ h; omega, .inl (by simp)⟩) (fun _ h => .inl (by simp [h]))
    exact x_ret (ret1 (rv_cell r11 rfl rfl)) ⟨_, { t with ins := L }, rfl, ⟨iv, ov, rfl, p1.lower (by omega), p2.lower (by omega), hv1, hv2⟩, sm_set hsm hL (fun x hx => (hLw x hx).1), no_grant (fun x hx => (hLw x hx).2), x11⟩
theorem of16_spec {M : List Nat} {v : Value} {cs : List Value} {l : List Ent} {a : ActP} (w : World) (hl : SlR entR M w v l) (ha : actpR.rel M w cs a) (hn : l.length ≤ 100000) (hid : ∀ x ∈ l, x.id.size = 32) (hM : ∀ b ∈ M, b < w.heap.size) :
    K.Spec Tryz.prog F.kedgelaw16_of [v, .agg cs.toArray] w fun r w' => ∃ cs' t, r = .agg cs'.toArray ∧ txO w.heap.size M w' cs' t ∧ t.Sm ∧ Ext w w' :=
  spec_mono (of16g_spec w hl ha hn hid hM) fun _ _ ⟨cs', t, h1, h2, h3, _, h5⟩ => ⟨cs', t, h1, h2, h3, h5⟩
end Go.Proofs.YtbnhinpegbcbeaaGreat
end
section
namespace Go.Proofs.YtbnhinpegbcbeaaGreat
open Go Go.K
set_option maxRecDepth 100000
theorem reads_actp {W : World} {c : List Value} (h : Reads Tryz.prog W 27 c) : ∃ a : ActP, actpR.rel [] W c a := by
  obtain ⟨h1, h2⟩ := reads_struct Tryz.underlying27 h
  have l : c.length = 7 := h1.trans (by kernel_rfl)
  match c, l with
  | [c0, c1, c2, c3, c4, c5, c6], _ =>
    have g0 := h2 _ (List.mem_of_getElem? (i := 0) rfl)
    have g1 := h2 _ (List.mem_of_getElem? (i := 1) rfl)
    obtain ⟨z, fv, e0, hz1, hz2, hz3⟩ := reads_small g0
    obtain ⟨o, e1⟩ := reads_bool Tryz.underlying4 g1
    simp only [c_small, c_bool, List.drop_zero, List.drop_succ_cons, List.take_succ_cons, List.take_zero, List.cons.injEq, and_true] at e0 e1
    simp only [smallCs, List.cons.injEq, and_true] at e0
    obtain ⟨rfl, rfl, rfl, rfl, rfl, rfl⟩ := e0
    exact ⟨⟨z, o⟩, c0, by rw [e1]; rfl, hz1, hz2, hz3⟩
theorem reads_actps {W : World} {v : Value} (h : Reads Tryz.prog W 22 [v]) : ∃ l, SlR actpR [] W v l ∧ l.length ≤ maxLen :=
  reads_slR actpR Tryz.underlying22 (by kernel_rfl) (fun _ h => reads_actp h) h
end Go.Proofs.YtbnhinpegbcbeaaGreat
end
section
namespace Go.Proofs.YtbnhinpegbcbeaaGreat
open Go Go.K
attribute [local irreducible] regK codeK retK KOp.wp K.Spec u32 leS vnS str zero32 sha2 encT idT sizeT checkT grantB idN stepR workL reachE findI

theorem Gr.both {w : World} {B g : Nat} {M U : List Nat} {l : List Ent} (hG : Gr w B g M l) (hU : GrR w g (U ++ M) l) : ∃ b1 vo b2 m sp, GrP w B g b1 vo b2 m sp l ∧ M = mutG g b1 b2 vo ∧ MapR sK entR (U ++ M) w b1 m := by
  obtain ⟨b1, vo, b2, m, sp, P, rfl⟩ := hG
  obtain ⟨b1', vo', b2', m', sp', Q⟩ := hU
  have e : [Value.map (some b1), vo, .map (some b2)] = [.map (some b1'), vo', .map (some b2')] := by
    have h1 := P.at_
    have h2 := Q.at_
    unfold At at h1 h2
    rw [h1] at h2
    simpa using h2
  simp only [List.cons.injEq, Value.map.injEq, Option.some.injEq, and_true] at e
  obtain ⟨rfl, rfl, rfl⟩ := e
  exact ⟨b1, vo, b2, m', sp', ⟨P.at_, Q.ents.step (Chg.refl [] _) (by simp) (by simp) (fun b hb => .inl (List.mem_append_right _ hb)), Q.pts, P.ord, Q.inv, P.nd, P.lo⟩, rfl, Q.ents⟩
/-- A graph, and blocks beside it, that are turned alone. -/
structure GrU (w : World) (B g : Nat) (M U : List Nat) (l : List Ent) : Prop where
  gr : Gr w B g M l
  rd : GrR w g (U ++ M) l
  dj : ∀ b ∈ M, b ∉ U
theorem GrU.ext {w w' : World} {B g : Nat} {M U : List Nat} {l : List Ent} (h : GrU w B g M U l) (c : Ext w w') : GrU w' B g M U l := ⟨h.gr.ext c, h.rd.ext c, h.dj⟩
theorem GrU.of {w : World} {B g : Nat} {M : List Nat} {l : List Ent} (h : Gr w B g M l) : GrU w B g M [] l := ⟨h, h.r, by simp⟩
theorem GrU.more {w w' : World} {B g : Nat} {M U U' : List Nat} {l : List Ent} (h : GrU w B g M U l) (c : Ext w w') (hU : ∀ b ∈ U', b ∈ U ∨ w.heap.size ≤ b) : GrU w' B g M U' l :=
  ⟨h.gr.ext c, h.rd.more c (fun b hb => (List.mem_append.1 hb).elim (fun h1 => (hU b h1).imp (fun h2 => List.mem_append_left _ h2) id) (fun h1 => .inl (List.mem_append_right _ h1))), fun b hb h1 => (hU b h1).elim (h.dj b hb) (fun h2 => by have := h.gr.lt b hb; omega)⟩
theorem GrU.chg {w w' : World} {B g : Nat} {M U U' : List Nat} {l : List Ent} (h : GrU w B g M U l) (c : Chg U w w') (hU : ∀ b ∈ U', b ∈ U ∨ w.heap.size ≤ b) : GrU w' B g M U' l := by
  have hlt := h.gr.lt
  obtain ⟨b1, vo, b2, m, sp, P, rfl, q⟩ := Gr.both h.gr h.rd
  have dj := h.dj
  have n1 := dj g (by simp)
  have n2 := dj b1 (by simp)
  have n3 := dj b2 (by simp)
  have o := P.ord.chg c fun b hb h => dj b (by simp [hb]) h
  have a := P.at_.chg c n1
  have pp := P.pts.chg c n3
  have e1 : ∀ b ∈ U' ++ mutG g b1 b2 vo, b ∈ U ++ mutG g b1 b2 vo ∨ w.heap.size ≤ b := fun b hb => (List.mem_append.1 hb).elim (fun h1 => (hU b h1).imp (fun h2 => List.mem_append_left _ h2) id) (fun h1 => .inl (List.mem_append_right _ h1))
  have mm := q.step (M' := U' ++ mutG g b1 b2 vo) c n2 (fun b hb => .inl (List.mem_append_left _ hb)) e1
  have m0 := q.step (M' := mutG g b1 b2 vo) c n2 (fun b hb => .inl (List.mem_append_left _ hb)) (fun b hb => .inl (List.mem_append_right _ hb))
  exact ⟨⟨b1, vo, b2, m, sp, ⟨a, m0, pp, o, P.inv, P.nd, P.lo⟩, rfl⟩, ⟨b1, vo, b2, m, sp, ⟨a, mm, pp, o.sl, P.inv⟩⟩, fun b hb h1 => (hU b h1).elim (dj b hb) (fun h2 => by have := hlt b hb; omega)⟩
end Go.Proofs.YtbnhinpegbcbeaaGreat
end
section
namespace Go.Proofs.YtbnhinpegbcbeaaGreat
open Go Go.K
attribute [local irreducible] regK codeK retK KOp.wp K.Spec u32 leS vnS str zero32 sha2 encT idT sizeT checkT grantB idN hangs stepR findI

abbrev bBase (l : List Ent) (id : ByteArray) (i : Nat) : Bool := decide ((i : Int) = findI l id)
abbrev bEdge (l : List Ent) (k i : Nat) : Bool := hangE l i k
theorem stepR_none {base : Nat → Bool} {edge : Nat → Nat → Bool} {n : Nat} (h : ∀ i, i < n → base i = false) : ∀ (r i : Nat), i < n → stepR base edge n r i = false
  | 0, i, _ => by unfold stepR; rfl
  | r + 1, i, hi => by
    rw [← Bool.not_eq_true, stepR_succ]
    rintro (h1 | ⟨k, h1, h2, h3⟩)
    · rw [h i hi] at h1; cases h1
    · rw [stepR_none h r k h1] at h2; cases h2
set_option maxHeartbeats 2000000 in
theorem below_spec {M : List Nat} {v : Value} {l : List Ent} (id : ByteArray) (w : World) (hl : SlR entR M w v l) (hn : l.length ≤ 1000) (hE : ∀ x ∈ l, x.tx.Sm) : K.Spec Tryz.prog F.kedgeref14_Below [v, .string id] w fun r w' => SlE boolE w' r (belowL l id) ∧ Ext w w' ∧ ∀ b ∈ blkOf r, w.heap.size ≤ b := by
  have hqe : ∀ x ∈ l, x.tx.ins.length ≤ 1000 := fun x hx => (hE x hx).ins
  have hf1 := findI_lt (l := l) (id := id)
  refine s_kedgeref14_Below rfl ?_
  unfold k_kedgeref14_Below
  refine ox ?_
  repeat' (first|(first|refine go1 ?_|refine zg (fun _ _=>?_)|refine zi (fun _ _=>?_))|refine zL rfl (fun h => ?_) (fun h => ?_)|(refine zG (E := entR) (M := M) (l := l) rfl (SlR.ext hl (by exact fx)) ?_)|(refine st_mkBool rfl rfl (by omega) (fun b w2 x2 a2 hb2 => ?_))|(refine zC rfl (find_spec (M := M) (l := l) id _ (by exact fx) (by omega)) ?_; rintro _ w3 ⟨rfl, hw3⟩; subst hw3))
  · have hfn : ∀ i, i < l.length → bBase l id i = false := fun i hi => decide_eq_false (by omega)
    have e : belowL l id = List.replicate l.length false := by
      unfold belowL reachL
      refine List.ext_getElem (by simp) fun i h1 h2 => ?_
      simp only [List.getElem_map, List.getElem_range, List.getElem_replicate]
      exact stepR_none hfn _ _ (by simpa using h1)
    rw [e]
    exact x_ret rfl ⟨AtB.sl a2 (by simp), by exact fx, by intro y hy; have hy : y ∈ [b] := hy; simp at hy; omega⟩
  · obtain ⟨n0, hn0⟩ : ∃ n0 : Nat, findI l id = n0 := ⟨(findI l id).toNat, by omega⟩
    have hnl : n0 < l.length := by omega
    rw [hn0]
    refine st_index rfl rfl (by omega) ?_
    refine st_storeB (m := List.replicate l.length false) (o := n0) (v := true) rfl rfl a2 (by simpa using hnl) (fun w4 c4 a4 => ?_)
    have x4 : Ext w w4 := (x2.chg c4).mono (by intro y hy; simp at hy; right; omega)
    have hm0 : Marks (bBase l id) (bEdge l) l.length ((List.replicate l.length false).set n0 true) := ⟨by simp, fun i hi hm => by
      rw [List.getElem_set] at hm
      split at hm
      · rename_i e; subst e
        exact stepR_base hnl (decide_eq_true hn0.symm)
      · simp at hm⟩
    have hs0 : has ((List.replicate l.length false).set n0 true) n0 := by
      unfold has; rw [List.getElem?_set_self (by simpa using hnl)]
    clear a2 x2 c4
    generalize (List.replicate l.length false).set n0 true = m0 at a4 hm0 hs0
    repeat' (first|(first|refine go1 ?_|refine zg (fun _ _=>?_)|refine zi (fun _ _=>?_))|refine zL rfl (fun h => ?_) (fun h => ?_)|refine zK (d := some 58) rfl (fun hmi => ?_) (fun hmi => ?_)|refine zK (d := some 63) rfl (fun hmk => ?_) (fun hmk => ?_)|(refine zG (E := entR) (M := M) (l := l) rfl (SlR.ext hl (by exact fx)) ?_)|(refine c_loopV (fun (p : Nat × List Bool) w' => Ext w w' ∧ p.1 ≤ l.length + 1 ∧ AtB w' b p.2 ∧ has p.2 n0 ∧ RInv (bBase l id) (bEdge l) l.length p.1 0 p.2) (fun p => [(0, v), (5, .slice (some ⟨b, 0, none⟩) l.length l.length), (7, .int .i64 p.1)]) (fun p => l.length + 1 - p.1) (0, m0) ⟨rfl, rfl, rfl, trivial⟩ ⟨x4, by simp, a4, hs0, RInv.zero hm0⟩ ?_; rintro ⟨r, m⟩ ρ w3 ⟨x3, hr, a3, hs3, hI⟩; simp only at hr a3 hs3 hI; dsimp only)|(refine c_loopV (fun (p : Nat × List Bool) w' => Ext w w' ∧ p.1 ≤ l.length ∧ AtB w' b p.2 ∧ has p.2 n0 ∧ RInv (bBase l id) (bEdge l) l.length r p.1 p.2) (fun p => [(0, v), (5, .slice (some ⟨b, 0, none⟩) l.length l.length), (7, .int .i64 r), (8, .int .i64 p.1)]) (fun p => l.length - p.1) (0, m) ⟨rfl, rfl, rfl, rfl, trivial⟩ ⟨by exact fx, by simp, by focus (repeat (first | assumption | (apply At.ext; assumption))), hs3, hI⟩ ?_; clear a3 hI x3 hs3; clear m; rintro ⟨i, m⟩ ρ4 w5 ⟨x5, hi, a5, hs5, hI⟩; simp only at hi a5 hs5 hI; dsimp only)|(have hil : i < l.length := (by omega); refine c_loopV (fun (p : Nat × List Bool) w' => Ext w w' ∧ p.1 ≤ l.length ∧ AtB w' b p.2 ∧ has p.2 n0 ∧ RInv (bBase l id) (bEdge l) l.length r i p.2 ∧ ∀ k, k < p.1 → stepR (bBase l id) (bEdge l) l.length r k = true → hangE l i k = true → has p.2 i) (fun p => [(0, v), (5, .slice (some ⟨b, 0, none⟩) l.length l.length), (7, .int .i64 r), (8, .int .i64 i), (9, .int .i64 p.1)]) (fun p => l.length - p.1) (0, m) ⟨rfl, rfl, rfl, rfl, rfl, trivial⟩ ⟨by exact fx, by simp, a5, hs5, hI, fun k hk => absurd hk (by simp)⟩ ?_; rintro ⟨k, m7⟩ ρ7 w7 ⟨x7, hk, a7, hs7, hK, hE7⟩; simp only at hk a7 hs7 hK hE7; dsimp only; have hml7 := hK.mks.len)|(refine st_elemR (d := some 43) (E := entR) (M := M) rfl rfl (n := i) (l := l) (SlR.ext hl (by exact fx)) rfl hil (fun ad cs r5 he => ?_); obtain ⟨iv2, ov2, rfl, g1, g2, g3⟩ := he)|(refine st_elemR (d := some 48) (E := entR) (M := M) rfl rfl (n := k) (l := l) (SlR.ext hl (by exact fx)) rfl (by omega) (fun ad cs r8 he => ?_); have hkl : k < l.length := (by omega))|(refine st_lN0 (d := some 49) (n := 7) (l := cs) rfl r8 (by rw [entR.len he]; exact Nat.le_refl _) (List.take_of_length_le (by rw [entR.len he]; exact Nat.le_refl _)) ?_)|(refine zC rfl (hangs_spec (M := M) (cs := txCs l[i].tx iv2 ov2) (t := l[i].tx) (x := l[k]) _ ⟨iv2, ov2, rfl, by exact fx, by exact fx, g3.1, g3.2.1⟩ he (by have := hqe _ (List.getElem_mem hil); omega)) ?_; rintro _ w8 ⟨rfl, x8⟩)|(refine st_elemE (d := some 55) (E := boolE) rfl rfl (n := i) (l := m7) (AtB.sl (by focus (repeat (first | assumption | (apply At.ext; assumption)))) hml7.symm) rfl (by omega) (fun ad r6 => ?_))|(refine st_elemE (d := some 60) (E := boolE) rfl rfl (n := k) (l := m7) (AtB.sl (by focus (repeat (first | assumption | (apply At.ext; assumption)))) hml7.symm) rfl (by omega) (fun ad r6 => ?_))|(refine st_index (d := some 66) rfl rfl (by omega) ?_)|(refine st_storeB (m := m7) (o := i) (v := (m7[i]'(by omega) || (m7[k]'(by omega) && hangs l[i].tx l[k]))) rfl (congrArg Value.bool (by first | (rw [hmi]; rfl) | (rw [hmi, hmk]; rfl) | (rw [hmi, hmk]; simp))) (by focus (repeat (first | assumption | (apply At.ext; assumption)))) (by omega) (fun w9 c9 a9 => ?_)))
    all_goals first
      | (have hx7 : Unit → Ext w w9 := fun _ => (Ext.chg (w := w) (by exact fx) c9).mono (by intro y hy; simp at hy; right; omega)
         have he : hangE l i k = hangs l[i].tx l[k] := by rw [hangE, entD_get hkl, entD_get hil]
         have hx : (m7[k] && hangs l[i].tx l[k]) = true → stepR (bBase l id) (bEdge l) l.length l.length i = true := fun hh => by
           rw [Bool.and_eq_true] at hh
           exact stepR_closed hil hkl (hK.mks.sound k (by omega) hh.1) (by rw [← he] at hh; exact hh.2)
         exact ⟨(k + 1, _), ⟨rfl, rfl, rfl, rfl, rfl, trivial⟩, ⟨hx7 (), by simp; omega, a9, has_set (by omega) hs7, hK.set (by omega) hx, fun q hq hs2 hh => by
           by_cases e : q = k
           · subst e
             exact has_new (by omega) (by rw [Bool.and_eq_true]; exact ⟨has_get (hK.all q hkl hs2) (by omega), by rw [← he]; exact hh⟩)
           · exact has_set (by omega) (hE7 q (by simp at hq; omega) hs2 hh)⟩, by simp; omega⟩)
      | exact ⟨(i + 1, m7), ⟨rfl, rfl, rfl, rfl, trivial⟩, ⟨by exact fx, by simp; omega, by focus (repeat (first | assumption | (apply At.ext; assumption))), hs7, hK.next (fun hb => by have : i = n0 := (by have := of_decide_eq_true hb; omega); rw [this]; exact hs7) (fun q hq => hE7 q (by omega))⟩, by simp; omega⟩
      | exact ⟨(r + 1, m), ⟨rfl, rfl, rfl, trivial⟩, ⟨by exact fx, by simp; omega, by focus (repeat (first | assumption | (apply At.ext; assumption))), hs5, hI.round (by omega)⟩, by simp; omega⟩
      | (have hd := hI.mks.done (fun q hq hs2 => hI.all q hq (stepR_le hs2 (by omega)))
         subst hd
         exact x_ret rfl ⟨AtB.sl (by focus (repeat (first | assumption | (apply At.ext; assumption)))) (reachL_length _ _ _).symm, by exact fx, by intro y hy; have hy : y ∈ [b] := hy; simp at hy; omega⟩)
      | trace_state
end Go.Proofs.YtbnhinpegbcbeaaGreat
end
