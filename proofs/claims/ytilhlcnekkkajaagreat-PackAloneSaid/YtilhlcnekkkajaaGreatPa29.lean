/- DERIVED: THE SHELF's CONTRACTS AT THIS DUMP, IN PLAIN WORDS (tools/lay-plain.mjs out of 'YtilhlcnekkkajaaGreatShelf3.lean', which tools/lay-shelf.mjs wrote): THE SAME DECLARATIONS UNDER THE SAME NAMES: 'import', 'namespace', 'open', 'def', 'theorem' AND NOTHING ELSE: no command of the shelf's: FOR A HAND-IN. Each laying: the table of numbers ('.._ren') and one theorem, a field a fact of the dump's -/
import Derived.Shelf.Bits.Mul64
import Derived.Ground.SlgnProg
import Derived.Ground.SlgfProg
import Derived.Test.YtilhlcnekkkajaaGreatProg
import Derived.Ground.NamesProg
import Derived.KernelRfl
import Derived.Test.YtilhlcnekkkajaaGreatPa28
set_option linter.unusedVariables false
set_option linter.unusedSimpArgs false
section
namespace Go.Proofs
open Go.Shelf
def Tryz.lays264_ren : Go.Shelf.Ren := ⟨fun | 264 => 192 | n => n, fun | 53 => 259 | 46 => 277 | n => n, fun | n => n⟩
theorem Tryz.lays264 : Go.Proofs.Lays.n264 Tryz.prog Tryz.lays264_ren := {
  mixed := by kernel_rfl
  f264 := Tryz.func192.trans (congrArg some (by kernel_rfl))
  t46 := Tryz.underlying277
  a46 := Tryz.isAgg277
  z46 := Tryz.sizeOf277
  v46 := Tryz.zeroValue277
  t53 := Tryz.underlying259
  a53 := Tryz.isAgg259
  z53 := Tryz.sizeOf259
  v53 := Tryz.zeroValue259 }
open Go.RowKit Go.Lib in
theorem Tryz.bits_Mul64 (x y : Nat) (hx : x < 18446744073709551616) (hy : y < 18446744073709551616) (w : World) :
    Calls Tryz.prog 192 #[.int .u64 x, .int .u64 y] w fun e w' => e = .returned (.tuple #[.int .u64 ((x * y / 18446744073709551616 : Nat) : Int), .int .u64 ((x * y % 18446744073709551616 : Nat) : Int)]) ∧ w' = w := Any.bits_Mul64 Tryz.lays264 x y hx hy w
end Go.Proofs
end
section
namespace Go.Proofs.YtilhlcnekkkajaaGreat
open Go Go.K
theorem mul64_spec (x y : Nat) (hx : x < 18446744073709551616) (hy : y < 18446744073709551616) (w : World) : K.Spec Tryz.prog F.math_bits_Mul64 [.int .u64 (x : Nat), .int .u64 (y : Nat)] w fun v w' => v = .tuple #[.int .u64 ((x * y / 18446744073709551616 : Nat) : Int), .int .u64 ((x * y % 18446744073709551616 : Nat) : Int)] ∧ Ext w w' :=
  (Tryz.bits_Mul64 x y hx hy w).mono fun e w' ⟨he, hw⟩ => ⟨_, he, rfl, by rw [hw]; exact Ext.refl _⟩
attribute [local irreducible] regK codeK retK KOp.wp K.Spec u32 leS vnS str zero32 sha2

def intE : Enc Int := ⟨fun n => [.int .i64 n], 1, fun _ => rfl, by decide, by intro x v hv; simp at hv; subst hv; rfl⟩
theorem u64_w {n : Nat} (h : n ≤ 2100000000000000) : IntKind.u64.wrap (n : Int) = (n : Nat) := by
  have e : ∀ m : Int, IntKind.u64.wrap m = m % 18446744073709551616 := fun _ => rfl
  rw [e]; omega
/-! The document's. -/
end Go.Proofs.YtilhlcnekkkajaaGreat
end
section
namespace Go.Proofs.YtilhlcnekkkajaaGreat
open Go Go.K
attribute [local irreducible] regK codeK retK KOp.wp K.Spec u32 leS vnS str zero32 sha2 encT idT sizeT checkT grantB idN stepR workL reachE findI dropG addG aboveL belowL idsOf feeD sizeD scoreL worstI cmpR rateR sizeL

theorem idsOf_le1 (l : List Ent) (m : List Bool) : (idsOf l m).length ≤ l.length := by
  have := (idsOf_sub l m).length_le
  simpa using this
end Go.Proofs.YtilhlcnekkkajaaGreat
end
section
namespace Go.Proofs.YtilhlcnekkkajaaGreat
open Go Go.K
section
variable {P : Program} {d : Option Tmp} {r : KR} {K : Env → World → Prop} {ρ : Env} {w : World}
theorem st_max {x y : Operand} {a b : Int} (hx : ev ρ x = .int .i64 a) (hy : ev ρ y = .int .i64 b) (k : regK P r K (put ρ d (.int .i64 (max a b))) w) : regK P (.cons ⟨d, .minmax true x [y], none⟩ r) K ρ w :=
  st_fix rfl (by
    have e : (if b > a then b else a) = max a b := by split <;> omega
    simp only [KOp.fix, List.foldl_cons, List.foldl_nil, hx, hy, Option.bind_some, minmax2, if_true, e]) k
end
theorem Own.blk_lt {α : Type} {E : Enc α} {t : TypeId} {B : Nat} {w : World} {v : Value} {l : List α} (h : Own E t B w v l) : ∀ b ∈ blkOf v, b < w.heap.size := by
  rcases h with ⟨rfl, rfl⟩ | ⟨b, cap, junk, rfl, hB, hat, hl⟩ <;> simp [blkOf]
  exact hat.lt
attribute [local irreducible] regK codeK retK KOp.wp K.Spec u32 leS vnS str zero32 sha2 encT idT sizeT checkT grantB idN stepR workL reachE findI dropG addG aboveL belowL idsOf feeD sizeD scoreL worstI cmpR rateR sizeL trimL wMask worstE leftL dropAll wS

structure TrimI (w : World) (l : List Ent) (n : Int) (B g : Nat) (M U : List Nat) (L : List Ent) (M1 : List Nat) (v : Value) (G : List ByteArray) (R : Int) (w' : World) : Prop where
  chg : Chg M w w'
  gr : GrU w' B g M1 (blkOf v ++ U) L
  own : Own strE T.string w.heap.size w' v G
  low : ∀ b ∈ M1, b ∈ M ∨ w.heap.size ≤ b
  eq : trimL n l = ((trimL n L).1, G ++ (trimL n L).2.1, max R (trimL n L).2.2)
  rate : 0 ≤ R
  len : G.length + L.length ≤ l.length
theorem TrimI.start {w : World} {l : List Ent} {n : Int} {B g : Nat} {M U : List Nat} (hG : GrU w B g M U l) : TrimI w l n B g M U l M (.slice none 0 0) [] 0 w :=
  ⟨Chg.refl _ _, hG, Own.nil _ _ _, fun _ h => .inl h, by
    have := (trim_rate (m := n) hG.gr.nodup).1
    rw [List.nil_append, Int.max_eq_right this], Int.le_refl _, by simp⟩
theorem TrimI.stop {w w' : World} {l L : List Ent} {n R : Int} {B g : Nat} {M U M1 : List Nat} {v : Value} {G : List ByteArray} (h : TrimI w l n B g M U L M1 v G R w') (hs : L.length = 0 ∨ sizeL L ≤ n) : trimL n l = (L, G, R) := by
  have e := h.eq
  rw [trimL_stop hs, List.append_nil] at e
  rw [e, Int.max_eq_left h.rate]
end Go.Proofs.YtilhlcnekkkajaaGreat
end
section
namespace Go.Proofs.YtilhlcnekkkajaaGreat
open Go Go.K
attribute [local irreducible] regK codeK retK KOp.wp K.Spec u32 leS vnS str zero32 sha2 encT idT sizeT checkT grantB idN
attribute [local irreducible] pI
noncomputable def insN (z : Small) (n : Nat) : List TIn := (List.range n).map fun j => ⟨⟨idN ((z.frm.getD j 0).toNat % 16), pI z j⟩, 4294967293, []⟩
def s9 : ByteArray := ⟨#[1, 1, 0, 0, 0, 0, 0, 0, 0]⟩
def s40 : ByteArray := ⟨#[48, 49, 50, 51, 52, 53, 54, 55, 56, 57, 48, 49, 50, 51, 52, 53, 54, 55, 56, 57, 48, 49, 50, 51, 52, 53, 54, 55, 56, 57, 48, 49, 50, 51, 52, 53, 54, 55, 56, 57]⟩
def outsN (n : Nat) : List TOut := (List.range n).map fun k : Nat => ⟨1000 + (k : Int), s9⟩
noncomputable def makeN (z : Small) : Tx := ⟨2, insN z (min z.frm.length 4), outsN (z.outs.toNat % 3 + 1) ++ List.replicate z.long.toNat ⟨1000, s40⟩, (z.mark.toNat : Nat)⟩
end Go.Proofs.YtilhlcnekkkajaaGreat
end
section
namespace Go.K
open Go
/-- n, known as a numeral. -/
def frc {α : Type} (n : Nat) (f : Nat → α) : α := match n with
  | 0 => f 0
  | n + 1 => f (Nat.succ n)
def m32 (n : Nat) : Nat := Nat.mod n 4294967296
def rotN (x k : Nat) : Nat := Nat.lor (Nat.shiftRight x k) (m32 (Nat.shiftLeft x (32 - k)))
def big0N (x : Nat) : Nat := Nat.xor (Nat.xor (rotN x 2) (rotN x 13)) (rotN x 22)
def big1N (x : Nat) : Nat := Nat.xor (Nat.xor (rotN x 6) (rotN x 11)) (rotN x 25)
def sml0N (x : Nat) : Nat := Nat.xor (Nat.xor (rotN x 7) (rotN x 18)) (Nat.shiftRight x 3)
def sml1N (x : Nat) : Nat := Nat.xor (Nat.xor (rotN x 17) (rotN x 19)) (Nat.shiftRight x 10)
def chN (e f g : Nat) : Nat := Nat.xor (Nat.land e f) (Nat.land (Nat.sub 4294967295 e) g)
def majN (a b c : Nat) : Nat := Nat.xor (Nat.xor (Nat.land a b) (Nat.land a c)) (Nat.land b c)
def t1N (h e f g k w : Nat) : Nat := m32 (Nat.add (m32 (Nat.add (m32 (Nat.add (m32 (Nat.add h (big1N e))) (chN e f g))) k)) w)
def t2N (a b c : Nat) : Nat := m32 (Nat.add (big0N a) (majN a b c))
/-- The rounds that are left, by their constants, over the last words. -/
def goN : List Nat → Nat → Nat → Nat → Nat → Nat → Nat → Nat → Nat → Nat → Nat → Nat → Nat → Nat → Nat → Nat → Nat → Nat → Nat → Nat → Nat → Nat → Nat → Nat → Nat → (Nat → Nat → Nat → Nat → Nat → Nat → Nat → Nat → List Nat) → List Nat
  | [], a, b, c, d, e, f, g, h, _, _, _, _, _, _, _, _, _, _, _, _, _, _, _, _, K => K a b c d e f g h
  | k :: ks, a, b, c, d, e, f, g, h, w0, w1, w2, w3, w4, w5, w6, w7, w8, w9, w10, w11, w12, w13, w14, w15, K =>
    frc (t1N h e f g k w0) fun t => frc (m32 (Nat.add t (t2N a b c))) fun a' => frc (m32 (Nat.add d t)) fun e' => frc (m32 (Nat.add (m32 (Nat.add (m32 (Nat.add w0 (sml0N w1))) w9)) (sml1N w14))) fun w16 =>
      goN ks a' a b c e' e f g w1 w2 w3 w4 w5 w6 w7 w8 w9 w10 w11 w12 w13 w14 w15 w16 K
/-- The words of a block, all of them. -/
def wW (b : List W32) (i : Nat) : W32 := wAt (wseq b (i + 1)) i
def kN : List Nat := kTab.map BitVec.toNat
end Go.K
end
section
namespace Go.K
open Go
def be4N (a b c d : Nat) : Nat := Nat.add (Nat.add (Nat.mul (Nat.add (Nat.mul a 256) b) 65536) (Nat.mul c 256)) d
def wordsN : List Nat → List Nat
  | a :: b :: c :: d :: r => frc (be4N a b c d) fun w => w :: wordsN r
  | _ => []
def m8 (n : Nat) : Nat := Nat.mod n 256
def outN (w : Nat) (K : Nat → Nat → Nat → Nat → List Nat) : List Nat := frc (m8 (Nat.div w 16777216)) fun a => frc (m8 (Nat.div w 65536)) fun b => frc (m8 (Nat.div w 256)) fun c => frc (m8 w) fun d => K a b c d
def out8 (a b c d e f g h : Nat) : List Nat :=
  outN a fun a1 a2 a3 a4 => outN b fun b1 b2 b3 b4 => outN c fun c1 c2 c3 c4 => outN d fun d1 d2 d3 d4 => outN e fun e1 e2 e3 e4 => outN f fun f1 f2 f3 f4 => outN g fun g1 g2 g3 g4 => outN h fun h1 h2 h3 h4 =>
    [a1, a2, a3, a4, b1, b2, b3, b4, c1, c2, c3, c4, d1, d2, d3, d4, e1, e2, e3, e4, f1, f2, f3, f4, g1, g2, g3, g4, h1, h2, h3, h4]
def runN : Nat → List Nat → Nat → Nat → Nat → Nat → Nat → Nat → Nat → Nat → List Nat
  | 0, _, a, b, c, d, e, f, g, h => out8 a b c d e f g h
  | n + 1, ws, a, b, c, d, e, f, g, h => match ws with
    | w0 :: w1 :: w2 :: w3 :: w4 :: w5 :: w6 :: w7 :: w8 :: w9 :: w10 :: w11 :: w12 :: w13 :: w14 :: w15 :: ws =>
      goN kN a b c d e f g h w0 w1 w2 w3 w4 w5 w6 w7 w8 w9 w10 w11 w12 w13 w14 w15 fun a' b' c' d' e' f' g' h' =>
        frc (m32 (Nat.add a a')) fun a => frc (m32 (Nat.add b b')) fun b => frc (m32 (Nat.add c c')) fun c => frc (m32 (Nat.add d d')) fun d => frc (m32 (Nat.add e e')) fun e => frc (m32 (Nat.add f f')) fun f => frc (m32 (Nat.add g g')) fun g => frc (m32 (Nat.add h h')) fun h =>
          runN n ws a b c d e f g h
    | _ => []
def padNN (l : List Nat) : List Nat := l ++ 128 :: (List.replicate (padN l.length) 0 ++ (leL (l.length * 8) 8).reverse.map UInt8.toNat)
def shaN (l : List Nat) : List Nat := runN (Nat.div (padNN l).length 64) (wordsN (padNN l)) 1779033703 3144134277 1013904242 2773480762 1359893119 2600822924 528734635 1541459225
end Go.K
end
section
namespace Go.K
open Go
/-- It spends one output, and has n alike. -/
def nxG (id : ByteArray) (i m q n : Nat) (s : ByteArray) : Tx := ⟨2, [⟨⟨id, (i : Nat)⟩, (q : Nat), []⟩], List.replicate n ⟨0, s⟩, (m : Nat)⟩
def nxT (id : ByteArray) (i m n : Nat) : Tx := nxG id i m 4294967293 n ⟨#[]⟩
def vnL (n : Nat) : List UInt8 := if n < 253 then leL n 1 else leL 253 1 ++ leL n 2
def encU (L : List UInt8) (i m q n : Nat) (s : List UInt8) : List UInt8 := leL 2 4 ++ leL 1 1 ++ (L ++ leL i 4 ++ leL 0 1 ++ leL q 4) ++ vnL n ++ (List.replicate n (leL 0 8 ++ (vnL s.length ++ s))).flatten ++ leL m 4
end Go.K
end
section
namespace Go.K
open Go
def sc9 : List UInt8 := [1, 1, 0, 0, 0, 0, 0, 0, 0]
def oneM (L : List UInt8) (m : Nat) : Tx := ⟨2, [⟨⟨str L, 0⟩, 4294967293, []⟩], [⟨1000, str sc9⟩], (m : Nat)⟩
def encM (L : List UInt8) (m : Nat) : List UInt8 := leL 2 4 ++ leL 1 1 ++ (L ++ leL 0 4 ++ leL 0 1 ++ leL 4294967293 4) ++ leL 1 1 ++ (leL 1000 8 ++ (leL 9 1 ++ sc9)) ++ leL m 4
def idL (n : Nat) : List UInt8 := (List.range 32).map fun i => UInt8.ofNat (n / 2 ^ (i % 8)) ^^^ UInt8.ofNat i
def r80 : List UInt8 := [25, 42, 22, 115, 193, 51, 64, 181, 222, 26, 82, 10, 253, 151, 117, 98, 228, 107, 119, 5, 141, 58, 45, 0, 248, 199, 16, 181, 194, 251, 33, 230]
def r81 : List UInt8 := [85, 40, 66, 161, 200, 85, 100, 165, 98, 137, 72, 194, 78, 42, 44, 146, 15, 139, 196, 191, 131, 155, 54, 191, 231, 92, 189, 20, 214, 255, 49, 68]
def r90 : List UInt8 := [224, 231, 132, 22, 155, 147, 84, 141, 189, 81, 171, 96, 167, 26, 13, 249, 123, 4, 161, 235, 106, 182, 26, 208, 68, 46, 184, 58, 28, 38, 199, 133]
end Go.K
end
section
namespace Go.K
open Go
def eA (f : Int) : Ent := ⟨oneM (idL 8) 0, str r80, f, 69⟩
def eB (f : Int) : Ent := ⟨oneM (idL 9) 0, str r90, f, 69⟩
end Go.K
end
section
namespace Go.Proofs.YtilhlcnekkkajaaGreat
open Go Go.K
attribute [local irreducible] regK codeK retK KOp.wp K.Spec u32 leS vnS str zero32 sha2 encT idT sizeT checkT grantB idN stepR workL reachE findI dropG addG trimL oneM idL
attribute [local irreducible] makeN eA eB wS
abbrev zS200 : Small := ⟨[200], 0, 0, 0, 0, 0⟩
abbrev zS201 : Small := ⟨[201], 0, 0, 0, 0, 0⟩
end Go.Proofs.YtilhlcnekkkajaaGreat
end
section
namespace Go.Proofs.YtilhlcnekkkajaaGreat
open Go Go.K
attribute [local irreducible] regK codeK retK KOp.wp K.Spec u32 leS vnS str zero32 sha2 encT idT sizeT checkT grantB idN stepR workL reachE findI dropG addG aboveL belowL idsOf feeD sizeD
theorem pt_dec (p q : Pt) : (decide (p.s = q.s) && (decide (p.i = q.i) && true)) = decide (p = q) := by
  cases p; cases q
  simp only [Bool.and_true, Pt.mk.injEq]
  exact Bool.decide_and _ _ |>.symm
theorem conf2_hb : hasBody Tryz.prog F.replace_Conflicts_1_1 = true := by kernel_rfl
theorem conf1_hb : hasBody Tryz.prog F.replace_Conflicts_1 = true := by kernel_rfl
theorem conf2_spec (a b : TIn) (av bv : Value) {ba : Nat} (w : World) (hbv : bv.oneCell' = true) (ha : Row w ⟨ba, 0, none⟩ (inCs a av)) : K.Spec Tryz.prog F.replace_Conflicts_1_1 [.agg (inCs b bv).toArray, .pointer (some ⟨ba, 0, none⟩)] w fun r w' => r = .bool (decide (a.p = b.p)) ∧ Ext w w' := by
  rw [← pt_dec]
  refine s_replace_Conflicts_1_1 rfl ?_
  unfold k_replace_Conflicts_1_1
  refine oy ?_
  repeat' (first|(first|refine go1 ?_|refine zg (fun _ _=>?_)|refine zi (fun _ _=>?_))|(refine zD rfl rfl (fun bp wp xp ap (rp : Row wp ⟨bp, 0, none⟩ (inCs b bv)) hp0=>?_)))
  exact x_ret rfl ⟨rfl, by exact fx⟩
theorem conf1_spec {M : List Nat} (a : TIn) (av iv ov : Value) {bt : Nat} {t : Tx} (w : World) (hav : av.oneCell' = true) (ht : Row w ⟨bt, 0, none⟩ (txCs t iv ov)) (hi : SlR inR M w iv t.ins) (hn : t.ins.length ≤ 1000) : K.Spec Tryz.prog F.replace_Conflicts_1 [.agg (inCs a av).toArray, .pointer (some ⟨bt, 0, none⟩)] w fun r w' => r = .bool (t.ins.any fun b => decide (a.p = b.p)) ∧ Ext w w' := by
  refine s_replace_Conflicts_1 rfl ?_
  unfold k_replace_Conflicts_1
  refine oy ?_
  repeat' (first|(first|refine go1 ?_|refine zg (fun _ _=>?_)|refine zi (fun _ _=>?_))|(refine zD rfl rfl (fun bp wp xp ap (rp : Row wp ⟨bp, 0, none⟩ (inCs a av)) hp0=>?_))|(refine zC rfl (idxIn_any (l := t.ins) (M := M) (g := F.replace_Conflicts_1_1) (capl := [_]) (p := fun b => decide (a.p = b.p)) _ conf2_hb (SlR.ext hi (by exact fx)) (by omega) ?_) ?_; rotate_left; rintro _ w2 ⟨rfl, x2⟩))
  · exact x_ret rfl ⟨rfl, by exact fx⟩
  · intro x _ w' cs x2 hc
    obtain ⟨bv, rfl, hw, _⟩ := hc
    exact conf2_spec a x av bv w' hw.one (rp.ext x2)
theorem confL_take {l : List Ent} {t : Tx} {i : Nat} (h : i < l.length) : idsOf (l.take (i + 1)) ((confL l t).take (i + 1)) = idsOf (l.take i) ((confL l t).take i) ++ if hitE t l[i] = true then [l[i].id] else [] := by
  have e : (confL l t)[i]'(by rw [← confL_len]; exact h) = hitE t l[i] := by simp [confL]
  rw [idsOf_take confL_len h, e]
set_option maxHeartbeats 2000000 in
theorem conflicts_spec {g : Nat} {M N : List Nat} {l : List Ent} {cs : List Value} {t : Tx} (w : World) (hG : GrR w g M l) (hM : ∀ b ∈ M, b < w.heap.size) (ht : txR.rel N w cs t) (hs : t.ins.length ≤ 1000) (hl : l.length ≤ 1000) :
    K.Spec Tryz.prog F.replace_Conflicts [.pointer (some ⟨g, 0, none⟩), .agg cs.toArray] w fun r w' => Own strE T.string w.heap.size w' r (idsOf l (confL l t)) ∧ Ext w w' := by
  have hsm : ∀ x ∈ l, x.tx.Sm := fun x hx => chk_sm (hG.ok x hx).check
  have id0 : idsOf (l.take 0) ((confL l t).take 0) = [] := by rw [List.take_zero, List.take_zero]; unfold idsOf; rfl
  obtain ⟨iv, ov, rfl, hi, ho, hv⟩ := ht
  refine s_replace_Conflicts rfl ?_
  unfold k_replace_Conflicts
  refine oy ?_
  repeat' (first|(first|refine go1 ?_|refine zg (fun _ _=>?_)|refine zi (fun _ _=>?_))|(refine zD (d := some 3) rfl rfl (fun bt wt xt bt' (rt : Row wt ⟨bt, 0, none⟩ (txCs t iv ov)) ht0=>?_))|(refine zC (d := some 9) rfl (all_spec (M := M) (l := l) _ (hG.ext (by exact fx)) (fun b hb => Nat.lt_of_lt_of_le (hM b hb) (Ext.size (by exact fx))) (by omega)) ?_; rintro va w2 ⟨oa, x2⟩; have sa : SlR entR [] w2 va l := (oa.sub (M' := []) (by simp)).sl (by simp); have x02 : Unit → Ext w w2 := (fun _ => by exact fx); have s02 := (x02 ()).size; have i2 := hi.ext (x02 ()); have r2 := rt.ext x2)|(refine zG (d := some 10) (E := entR) (M := []) (l := l) rfl (SlR.ext sa (by exact fx)) ?_)|(refine zL rfl (fun h => ?_) (fun h => ?_))|(refine c_loopV (fun (p : Nat × Value) w' => Ext w2 w' ∧ p.1 ≤ l.length ∧ Own strE T.string w2.heap.size w' p.2 (idsOf (l.take p.1) ((confL l t).take p.1))) (fun p => [(3, .pointer (some ⟨bt, 0, none⟩)), (5, p.2), (9, va), (10, .int .i64 (l.length : Nat)), (11, .int .i64 p.1)]) (fun p => l.length - p.1) (0, .slice none 0 0) ⟨rfl, rfl, rfl, rfl, rfl, trivial⟩ ⟨Ext.refl _, by simp, by rw [id0]; exact Own.nil _ _ _⟩ ?_; rintro ⟨i, v5⟩ ρ w3 ⟨x3, hi3, o3⟩; simp only at hi3 o3; dsimp only))
  · have hil : i < l.length := by omega
    have hxs := (hsm _ (List.getElem_mem hil)).ins
    have s3 := x3.size
    refine st_elemR (d := some 13) (E := entR) (M := []) rfl rfl (n := i) (l := l) (SlR.ext sa (by exact fx)) rfl hil (fun ad cs r4 he => ?_)
    obtain ⟨iv2, ov2, rfl, q1, q2, q3⟩ := he
    have i1 := q1.one
    have j2 := q2.one
    have r3 := r2.ext x3
    have i3 := i2.ext x3
    have hle := idsOf_length (l.take i) ((confL l t).take i)
    have htl : (l.take i).length = i := by rw [List.length_take]; omega
    have x23 : Unit → Ext w2 w3 := fun _ => x3
    clear x3
    have tl : ∀ w1, Ext w3 w1 → Tells F.replace_Conflicts_1 [.pointer (some ⟨bt, 0, none⟩)] inR (fun cs => .agg cs.toArray) [] w1 l[i].tx.ins (fun a => t.ins.any fun b => decide (a.p = b.p)) := fun w1 x1 x _ w' cs x2 hc => by
      obtain ⟨bv, rfl, hw, _⟩ := hc
      exact conf1_spec (M := N) x bv iv ov w' hw.one (r3.ext (x1.trans x2)) (i3.ext (x1.trans x2)) hs
    repeat' (first|(first|refine go1 ?_|refine zg (fun _ _=>?_)|refine zi (fun _ _=>?_))|(refine zE (d' := 7) (fun _=>rfl) rfl rfl (by simp [entCs, i1, j2]; exact ⟨rfl, rfl, rfl, rfl, rfl⟩) (fun b6 w6 x6 a6 (r6 : Row w6 ⟨b6, 0, none⟩ (entCs l[i] iv2 ov2)) hb6=>?_))|(refine zC (d := some 19) rfl (idxIn_any (l := l[i].tx.ins) (M := []) (g := F.replace_Conflicts_1) (capl := [_]) (p := fun a => t.ins.any fun b => decide (a.p = b.p)) _ conf1_hb (SlR.ext q1 (by exact fx)) (by omega) (tl _ (by exact fx))) ?_; rintro _ w7 ⟨rfl, x7⟩)|(refine zM rfl (fun h => ?_) (fun h => ?_))|(refine zI (d := some 23) (cs := [.string l[i].id]) rfl (fun b9 w9 x9 a9 hb9 => ?_)))
    · have x39 : Ext w3 w9 := by exact fx
      have s39 := x39.size
      refine st_appendX (d := some 24) (E := strE) (v := v5) (l2 := [l[i].id]) rfl (o3.ext x39) (by omega) rfl rfl (sl_new a9 rfl) rfl rfl (by simp only [List.length_cons, List.length_nil]; omega) (fun v10 w10 o10 _ c10 hb10 => ?_)
      have hh : hitE t l[i] = true := h
      repeat' (first|refine go1 ?_|refine zg (fun _ _=>?_)|refine zi (fun _ _=>?_))
      exact ⟨(i + 1, v10), ⟨rfl, rfl, rfl, rfl, rfl, trivial⟩, ⟨(((x23 ()).trans x39).chg c10).mono (fun b hb => .inr (o3.base b hb)), by simp only; omega, by simp only; rw [confL_take hil, if_pos hh]; exact o10⟩, by simp only; omega⟩
    · have hh : ¬ hitE t l[i] = true := by
        have h2 : hitE t l[i] = false := h
        rw [h2]; simp
      exact ⟨(i + 1, v5), ⟨rfl, rfl, rfl, rfl, rfl, trivial⟩, ⟨Ext.trans (x23 ()) (by exact fx), by simp only; omega, by simp only; rw [confL_take hil, if_neg hh, List.append_nil]; exact o3.ext (by exact fx)⟩, by simp only; omega⟩
  · rw [List.take_of_length_le (by omega), List.take_of_length_le (by rw [← confL_len]; omega)] at o3
    exact x_ret rfl ⟨o3.lower s02, Ext.trans (x02 ()) (by exact fx)⟩
end Go.Proofs.YtilhlcnekkkajaaGreat
end
section
namespace Go.K
open Go Go.Proofs.YtilhlcnekkkajaaGreat
def cntS (P : List ByteArray) (s : ByteArray) : Nat := (P.filter fun x => decide (x = s)).length
theorem cntS_snoc (P : List ByteArray) (x s : ByteArray) : cntS (P ++ [x]) s = cntS P s + if x = s then 1 else 0 := by
  unfold cntS
  rw [List.filter_append, List.length_append]
  by_cases h : x = s
  · rw [List.filter_cons_of_pos (by simpa using h), if_pos h]; rfl
  · rw [List.filter_cons_of_neg (by simpa using h), if_neg h]; rfl
theorem cntS_pos {P : List ByteArray} {s : ByteArray} : 0 < cntS P s ↔ s ∈ P := by
  unfold cntS
  rw [List.length_pos_iff_exists_mem]
  constructor
  · rintro ⟨x, hx⟩
    obtain ⟨h1, h2⟩ := List.mem_filter.1 hx
    rw [← of_decide_eq_true h2]; exact h1
  · exact fun h => ⟨s, List.mem_filter.2 ⟨h, decide_eq_true rfl⟩⟩
theorem cntS_le (P : List ByteArray) (s : ByteArray) : cntS P s ≤ P.length := List.length_filter_le _ _
/-- A map counts what a list has. -/
def Cnt (met : List (ByteArray × Nat)) (P : List ByteArray) : Prop := ∀ s, aget met s = if cntS P s = 0 then none else some (cntS P s)
theorem Cnt.nil : Cnt [] [] := fun s => rfl
theorem Cnt.add {met : List (ByteArray × Nat)} {P : List ByteArray} (h : Cnt met P) (s : ByteArray) : Cnt (aset met s (cntS P s + 1)) (P ++ [s]) := fun k => by
  rw [aget_set', cntS_snoc]
  by_cases e : s = k
  · subst e
    rw [if_pos rfl, if_pos rfl, if_neg (by omega)]
  · rw [if_neg e, if_neg e, h k, Nat.add_zero]
theorem Cnt.found {met : List (ByteArray × Nat)} {P : List ByteArray} (h : Cnt met P) {s : ByteArray} {c : Nat} (hc : aget met s = some c) : cntS P s = c ∧ 0 < c := by
  have := h s
  rw [hc] at this
  split at this
  · cases this
  · injection this with e; omega
theorem Cnt.none_ {met : List (ByteArray × Nat)} {P : List ByteArray} (h : Cnt met P) {s : ByteArray} (hc : aget met s = none) : cntS P s = 0 := by
  have := h s
  rw [hc] at this
  split at this
  · assumption
  · cases this
def metL (l : List Ent) (ids : List ByteArray) : List ByteArray := ids.flatMap fun s => idsOf l (belowL l s)
theorem metL_take {l : List Ent} {ids : List ByteArray} {i : Nat} (h : i < ids.length) : metL l (ids.take (i + 1)) = metL l (ids.take i) ++ idsOf l (belowL l ids[i]) := by
  unfold metL
  rw [List.take_succ_eq_append_getElem h, List.flatMap_append, List.flatMap_singleton]
theorem metL_len {l : List Ent} : ∀ (ids : List ByteArray), (metL l ids).length ≤ l.length * ids.length
  | [] => by simp [metL]
  | s :: ids => by
    have ih := metL_len (l := l) ids
    have h := (idsOf_sub l (belowL l s)).length_le
    rw [List.length_map] at h
    unfold metL at ih ⊢
    rw [List.flatMap_cons, List.length_append, List.length_cons, Nat.mul_add]
    omega
theorem ev_at {l : List Ent} {t : Tx} (hn : (l.map (·.id)).Nodup) {i : Nat} (hi : i < l.length) : ((evL l t)[i]'(by rw [← evL_len]; exact hi)) = true ↔ 0 < cntS (metL l (idsOf l (confL l t))) l[i].id := by
  rw [cntS_pos]
  have h1 := evI_iff (l := l) (t := t) hi (Nat.le_refl _)
  have e : (evI l t l.length)[i]? = some ((evL l t)[i]'(by rw [← evL_len]; exact hi)) := List.getElem?_eq_getElem _
  rw [e] at h1
  simp only [Option.some.injEq] at h1
  rw [h1]
  unfold metL
  rw [List.mem_flatMap]
  constructor
  · rintro ⟨j, hj, _, h2, h3⟩
    exact ⟨l[j].id, mem_conf.2 ⟨l[j], List.getElem_mem hj, h2, rfl⟩, (mem_below hn hi).2 h3⟩
  · rintro ⟨s, hs, h2⟩
    obtain ⟨x, hx, h3, rfl⟩ := mem_conf.1 hs
    obtain ⟨j, hj, rfl⟩ := List.getElem_of_mem hx
    exact ⟨j, hj, hj, h3, (mem_below hn hi).1 h2⟩
theorem evL_take {l : List Ent} {t : Tx} {i : Nat} (h : i < l.length) : idsOf (l.take (i + 1)) ((evL l t).take (i + 1)) = idsOf (l.take i) ((evL l t).take i) ++ if (evL l t)[i]'(by rw [← evL_len]; exact h) = true then [l[i].id] else [] := idsOf_take evL_len h
end Go.K
end
section
namespace Go.Proofs.YtilhlcnekkkajaaGreat
open Go Go.K
attribute [local irreducible] regK codeK retK KOp.wp K.Spec u32 leS vnS str zero32 sha2 encT idT sizeT checkT grantB idN stepR workL reachE findI dropG addG aboveL belowL idsOf feeD sizeD cntS metL confL evL
set_option maxHeartbeats 4000000 in
theorem evicted_spec {g : Nat} {M N : List Nat} {l : List Ent} {cs : List Value} {t : Tx} (w : World) (hG : GrR w g M l) (hM : ∀ b ∈ M, b < w.heap.size) (ht : txR.rel N w cs t) (hs : t.ins.length ≤ 1000) (hl : l.length ≤ 1000) :
    K.Spec Tryz.prog F.replace_Evicted [.pointer (some ⟨g, 0, none⟩), .agg cs.toArray] w fun r w' => Own strE T.string w.heap.size w' r (idsOf l (evL l t)) ∧ Ext w w' := by
  have hnd := hG.nodup
  have ht0 := ht
  obtain ⟨iv, ov, rfl, hi, ho, hv⟩ := ht
  have id0 : idsOf (l.take 0) ((evL l t).take 0) = [] := by rw [List.take_zero, List.take_zero]; unfold idsOf; rfl
  obtain ⟨ids, hids⟩ : ∃ ids, ids = idsOf l (confL l t) := ⟨_, rfl⟩
  have hil : ids.length ≤ l.length := by rw [hids]; exact idsOf_le1 _ _
  have m0 : metL l (ids.take 0) = [] := by rw [List.take_zero]; unfold metL; rfl
  refine s_replace_Evicted rfl ?_
  unfold k_replace_Evicted
  refine oy ?_
  repeat' (first|(first|refine go1 ?_|refine zg (fun _ _=>?_)|refine zi (fun _ _=>?_))|(refine zD (d := some 3) rfl rfl (fun bt wt xt bt' (rt : Row wt ⟨bt, 0, none⟩ (txCs t iv ov)) hbt0=>?_))|(refine st_makeMap (d := some 13) (E := sK) (fv := fun n : Nat => Value.int .i64 (n : Nat)) (fun bm w1 x1 m1 hb1 => ?_); have lm := m1.lt)|(refine zC (d := some 16) rfl (conflicts_spec (M := M) (N := N) (l := l) (cs := txCs t iv ov) (t := t) _ (hG.ext (by exact fx)) (fun b hb => Nat.lt_of_lt_of_le (hM b hb) (Ext.size (by exact fx))) (R.ext ht0 (by exact fx)) hs hl) ?_; rw [← hids]; rintro vc w2 ⟨oc, x2⟩)|(refine st_len (d := some 17) (E := strE) (l := ids) rfl oc.sl ?_))
  have x02 : Ext w w2 := (xt.trans x1).trans x2
  have m2 := m1.ext x2
  have bcb := oc.base
  have hc2 : ∀ b ∈ blkOf vc, b ∉ [bm] := fun b hb h => by have := bcb b hb; simp at h; omega
  have hbm : w.heap.size ≤ bm := by have := xt.size; omega
  have lm2 : bm < w2.heap.size := Nat.lt_of_lt_of_le lm x2.size
  clear xt x1 x2 m1
  repeat' (first|(first|refine go1 ?_|refine zg (fun _ _=>?_)|refine zi (fun _ _=>?_))|(refine zL rfl (fun h => ?_) (fun h => ?_))|(refine c_loopV (fun (p : Nat × List (ByteArray × Nat)) w' => Ext w w' ∧ w2.heap.size ≤ w'.heap.size ∧ p.1 ≤ ids.length ∧ MapE sK (fun n : Nat => Value.int .i64 (n : Nat)) w' bm p.2 ∧ Cnt p.2 (metL l (ids.take p.1)) ∧ Own strE T.string w1.heap.size w' vc ids) (fun p => [(0, .pointer (some ⟨g, 0, none⟩)), (5, .map (some bm)), (16, vc), (17, .int .i64 (ids.length : Nat)), (18, .int .i64 p.1)]) (fun p => ids.length - p.1) (0, []) ⟨rfl, rfl, rfl, rfl, rfl, trivial⟩ ⟨x02, Nat.le_refl _, by simp, m2, by rw [m0]; exact Cnt.nil, oc⟩ ?_; clear x02 oc m2; rintro ⟨i, met⟩ ρ w3 ⟨x3, s3, hi3, m3, c3, o3⟩; simp only at hi3 m3 c3; dsimp only))
  · have hii : i < ids.length := by omega
    have hbl := idsOf_le1 l (belowL l ids[i])
    have hml := metL_len (l := l) (ids.take i)
    have hml2 : l.length * (ids.take i).length ≤ 1000 * 1000 := Nat.mul_le_mul hl (by rw [List.length_take]; omega)
    refine st_elemE (d := some 20) (E := strE) rfl rfl (n := i) (l := ids) o3.sl rfl hii (fun ad r5 => ?_)
    have r5 : Row w3 ad [Value.string ids[i]] := r5
    repeat' (first|(first|refine go1 ?_|refine zg (fun _ _=>?_)|refine zi (fun _ _=>?_))|(refine zC (d := some 24) rfl (pbelow_spec (M := M) (l := l) ids[i] _ (hG.ext (by exact fx)) (fun b hb => Nat.lt_of_lt_of_le (hM b hb) (Ext.size (by exact fx))) hl) ?_; rintro vb w4 ⟨ob, x4⟩)|(refine st_len (d := some 25) (E := strE) (l := idsOf l (belowL l ids[i])) rfl ob.sl ?_))
    obtain ⟨bs, hbs⟩ : ∃ bs, bs = idsOf l (belowL l ids[i]) := ⟨_, rfl⟩
    rw [← hbs] at ob hbl ⊢
    have x04 : Ext w w4 := x3.trans x4
    have s4 := x4.size
    have bbb := ob.base
    have hb2 : ∀ b ∈ blkOf vb, b ∉ [bm] := fun b hb h => by have := bbb b hb; simp at h; omega
    have t0 : metL l (ids.take i) ++ bs.take 0 = metL l (ids.take i) := by rw [List.take_zero, List.append_nil]
    have m4 := m3.ext x4
    have o4 := o3.ext x4
    clear x3 x4 m3 o3 r5
    repeat' (first|(first|refine go1 ?_|refine zg (fun _ _=>?_)|refine zi (fun _ _=>?_))|(refine zL rfl (fun h => ?_) (fun h => ?_))|(refine c_loopV (fun (p : Nat × List (ByteArray × Nat)) w' => Ext w w' ∧ w2.heap.size ≤ w'.heap.size ∧ p.1 ≤ bs.length ∧ MapE sK (fun n : Nat => Value.int .i64 (n : Nat)) w' bm p.2 ∧ Cnt p.2 (metL l (ids.take i) ++ bs.take p.1) ∧ Own strE T.string w1.heap.size w' vc ids ∧ Own strE T.string w3.heap.size w' vb bs) (fun p => [(0, .pointer (some ⟨g, 0, none⟩)), (5, .map (some bm)), (16, vc), (17, .int .i64 (ids.length : Nat)), (18, .int .i64 i), (24, vb), (25, .int .i64 (bs.length : Nat)), (26, .int .i64 p.1)]) (fun p => bs.length - p.1) (0, met) ⟨rfl, rfl, rfl, rfl, rfl, rfl, rfl, rfl, trivial⟩ ⟨x04, by omega, by simp, m4, by rw [t0]; exact c3, o4, ob⟩ ?_; clear x04 m4 o4 ob; rintro ⟨j, met2⟩ ρ2 w5 ⟨x5, s5, hj5, m5, c5, o5, ob5⟩; simp only at hj5 m5 c5; dsimp only))
    · have hjl : j < bs.length := by omega
      refine st_elemE (d := some 28) (E := strE) rfl rfl (n := j) (l := bs) ob5.sl rfl hjl (fun ad r6 => ?_)
      have r6 : Row w5 ad [Value.string bs[j]] := r6
      have hadd := c5.add bs[j]
      have htk : metL l (ids.take i) ++ bs.take (j + 1) = metL l (ids.take i) ++ bs.take j ++ [bs[j]] := by rw [List.take_succ_eq_append_getElem hjl, List.append_assoc]
      have hcl := cntS_le (metL l (ids.take i) ++ bs.take j) bs[j]
      rw [List.length_append, List.length_take] at hcl
      cases hag : aget met2 bs[j] with
      | none =>
        have hcz := c5.none_ hag
        rw [hcz] at hadd
        repeat' (first|(first|refine go1 ?_|refine zg (fun _ _=>?_)|refine zi (fun _ _=>?_))|(refine st_lookup (d := some 32) (E := sK) (fv := fun n : Nat => Value.int .i64 (n : Nat)) (k := bs[j]) rfl rfl m5 rfl rfl (fun c hcc => by rw [hag] at hcc; cases hcc) (fun hcn => ?_))|(refine st_mapUpdate (d := none) (E := sK) (fv := fun n : Nat => Value.int .i64 (n : Nat)) (k := bs[j]) (v := 1) rfl rfl rfl m5 rfl rfl (fun w6 c6 m6 => ?_)))
        refine ⟨(j + 1, _), ⟨rfl, rfl, rfl, rfl, rfl, rfl, rfl, rfl, trivial⟩, ⟨(x5.chg c6).mono (by intro b hb; simp at hb; subst hb; exact .inr hbm), by have := c6.size; omega, by simp only; omega, m6, by rw [htk]; exact hadd, o5.chg c6 hc2, ob5.chg c6 hb2⟩, by simp only; omega⟩
      | some c =>
        have hcz := (c5.found hag).1
        rw [hcz] at hadd hcl
        repeat' (first|(first|refine go1 ?_|refine zg (fun _ _=>?_)|refine zi (fun _ _=>?_))|(refine st_lookup (d := some 32) (E := sK) (fv := fun n : Nat => Value.int .i64 (n : Nat)) (k := bs[j]) rfl rfl m5 rfl rfl (fun c' hcc => ?_) (fun hcn => by rw [hag] at hcn; cases hcn); rw [hag] at hcc; injection hcc with hcc; subst hcc)|(refine st_mapUpdate (d := none) (E := sK) (fv := fun n : Nat => Value.int .i64 (n : Nat)) (k := bs[j]) (v := c + 1) rfl rfl rfl m5 rfl rfl (fun w6 c6 m6 => ?_)))
        refine ⟨(j + 1, _), ⟨rfl, rfl, rfl, rfl, rfl, rfl, rfl, rfl, trivial⟩, ⟨(x5.chg c6).mono (by intro b hb; simp at hb; subst hb; exact .inr hbm), by have := c6.size; omega, by simp only; omega, m6, by rw [htk]; exact hadd, o5.chg c6 hc2, ob5.chg c6 hb2⟩, by simp only; omega⟩
    · rw [List.take_of_length_le (l := bs) (by omega)] at c5
      exact ⟨(i + 1, met2), ⟨rfl, rfl, rfl, rfl, rfl, trivial⟩, ⟨x5, s5, by simp only; omega, m5, by rw [metL_take hii, ← hbs]; exact c5, o5⟩, by simp only; omega⟩
  · rw [List.take_of_length_le (l := ids) (by omega)] at c3
    have s03 : Unit → Ext w w3 := fun _ => x3
    repeat' (first|(first|refine go1 ?_|refine zg (fun _ _=>?_)|refine zi (fun _ _=>?_))|(refine zC (d := some 37) rfl (all_spec (M := M) (l := l) _ (hG.ext x3) (fun b hb => Nat.lt_of_lt_of_le (hM b hb) x3.size) (by omega)) ?_; rintro va w4 ⟨oa, x4⟩; have sa : SlR entR [] w4 va l := (oa.sub (M' := []) (by simp)).sl (by simp); have m4 := m3.ext x4; have x34 := x3.trans x4; clear x3)|(refine zG (d := some 38) (E := entR) (M := []) (l := l) rfl (SlR.ext sa (by exact fx)) ?_)|(refine zL rfl (fun h => ?_) (fun h => ?_))|(refine c_loopV (fun (p : Nat × Value) w' => Ext w4 w' ∧ p.1 ≤ l.length ∧ Own strE T.string w4.heap.size w' p.2 (idsOf (l.take p.1) ((evL l t).take p.1))) (fun p => [(5, .map (some bm)), (10, p.2), (37, va), (38, .int .i64 (l.length : Nat)), (39, .int .i64 p.1)]) (fun p => l.length - p.1) (0, .slice none 0 0) ⟨rfl, rfl, rfl, rfl, rfl, trivial⟩ ⟨Ext.refl _, by simp, by rw [id0]; exact Own.nil _ _ _⟩ ?_; rintro ⟨i, v5⟩ ρ w5 ⟨x5, hi5, o5⟩; simp only at hi5 o5; dsimp only))
    · have hil2 : i < l.length := by omega
      have hle := idsOf_length (l.take i) ((evL l t).take i)
      have htl : (l.take i).length = i := by rw [List.length_take]; omega
      have hev := ev_at (t := t) hnd hil2
      rw [← hids] at hev
      have s5 := x5.size
      refine st_elemR (d := some 41) (E := entR) (M := []) rfl rfl (n := i) (l := l) (SlR.ext sa (by exact fx)) rfl hil2 (fun ad cs r4 he => ?_)
      obtain ⟨iv2, ov2, rfl, q1, q2, q3⟩ := he
      have i1 := q1.one
      have j2 := q2.one
      repeat' (first|(first|refine go1 ?_|refine zg (fun _ _=>?_)|refine zi (fun _ _=>?_))|(refine zE (d' := 12) (fun _=>rfl) rfl rfl (by simp [entCs, i1, j2]; exact ⟨rfl, rfl, rfl, rfl, rfl⟩) (fun b6 w6 x6 a6 (r6 : Row w6 ⟨b6, 0, none⟩ (entCs l[i] iv2 ov2)) hb6=>?_))|(refine st_lookup (d := some 46) (E := sK) (fv := fun n : Nat => Value.int .i64 (n : Nat)) (k := l[i].id) rfl rfl (MapE.ext (by exact fx) m4) rfl rfl (fun c hcc => ?_) (fun hcn => ?_))|(have hcz := c3.found hcc; rw [hcz.1] at hev; refine zL (p := ((c : Nat) : Int) > 0) rfl (fun h9 => ?_) (fun h9 => absurd h9 (by omega)))|(have hcz := c3.none_ hcn; rw [hcz] at hev; refine zL (p := (0 : Int) > 0) rfl (fun h9 => absurd h9 (by omega)) (fun h9 => ?_))|(refine zI (d := some 51) (cs := [.string l[i].id]) rfl (fun b9 w9 x9 a9 hb9 => ?_)))
      · have x59 : Ext w5 w9 := by exact fx
        have s59 := x59.size
        have hh : (evL l t)[i]'(by rw [← evL_len]; exact hil2) = true := hev.2 (by omega)
        refine st_appendX (d := some 52) (E := strE) (v := v5) (l2 := [l[i].id]) rfl (o5.ext x59) (by omega) rfl rfl (sl_new a9 rfl) rfl rfl (by simp only [List.length_cons, List.length_nil]; omega) (fun v10 w10 o10 _ c10 hb10 => ?_)
        repeat' (first|refine go1 ?_|refine zg (fun _ _=>?_)|refine zi (fun _ _=>?_))
        exact ⟨(i + 1, v10), ⟨rfl, rfl, rfl, rfl, rfl, trivial⟩, ⟨((x5.trans x59).chg c10).mono (fun b hb => .inr (o5.base b hb)), by simp only; omega, by simp only; rw [evL_take hil2, if_pos hh]; exact o10⟩, by simp only; omega⟩
      · have hh : ¬ (evL l t)[i]'(by rw [← evL_len]; exact hil2) = true := fun h => by have := hev.1 h; have := c3.none_ hcn; omega
        exact ⟨(i + 1, v5), ⟨rfl, rfl, rfl, rfl, rfl, trivial⟩, ⟨by exact fx, by simp only; omega, by simp only; rw [evL_take hil2, if_neg hh, List.append_nil]; exact o5.ext (by exact fx)⟩, by simp only; omega⟩
    · rw [List.take_of_length_le (by omega), List.take_of_length_le (by rw [← evL_len]; omega)] at o5
      exact x_ret rfl ⟨o5.lower x34.size, x34.trans x5⟩
end Go.Proofs.YtilhlcnekkkajaaGreat
end
