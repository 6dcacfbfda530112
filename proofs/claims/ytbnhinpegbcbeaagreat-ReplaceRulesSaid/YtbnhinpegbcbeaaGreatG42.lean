/- Plain: digests, reckoned with natural numbers. Plain: digests of lists of bytes, reckoned with natural numbers. Plain: transactions that spend one output, and their ids. Plain: transactions that were made of one number, and their ids. Plain: two transactions made of one number each, in one graph. Contracts: what the document fixes of trimming. Contracts: the rules of replacing, by the program. -/
import Derived.KernelRfl
import Derived.Test.YtbnhinpegbcbeaaGreatG38
import Derived.Test.YtbnhinpegbcbeaaGreatG41
set_option linter.unusedVariables false
set_option linter.unusedSimpArgs false
section
namespace Go.K
open Go
/-- n, known as a numeral. -/
def frc {α : Type} (n : Nat) (f : Nat → α) : α := match n with
  | 0 => f 0
  | n + 1 => f (Nat.succ n)
theorem frc_eq {α : Type} (n : Nat) (f : Nat → α) : frc n f = f n := by cases n <;> rfl
def m32 (n : Nat) : Nat := Nat.mod n 4294967296
def rotN (x k : Nat) : Nat := Nat.lor (Nat.shiftRight x k) (m32 (Nat.shiftLeft x (32 - k)))
def big0N (x : Nat) : Nat := Nat.xor (Nat.xor (rotN x 2) (rotN x 13)) (rotN x 22)
def big1N (x : Nat) : Nat := Nat.xor (Nat.xor (rotN x 6) (rotN x 11)) (rotN x 25)
def sml0N (x : Nat) : Nat := Nat.xor (Nat.xor (rotN x 7) (rotN x 18)) (Nat.shiftRight x 3)
def sml1N (x : Nat) : Nat := Nat.xor (Nat.xor (rotN x 17) (rotN x 19)) (Nat.shiftRight x 10)
def chN (e f g : Nat) : Nat := Nat.xor (Nat.land e f) (Nat.land (Nat.sub 4294967295 e) g)
def majN (a b c : Nat) : Nat := Nat.xor (Nat.xor (Nat.land a b) (Nat.land a c)) (Nat.land b c)
theorem rotN_eq (x : W32) (k : Nat) (h : k < 32) : (rot x k).toNat = rotN x.toNat k := by
  unfold rot rotN m32
  rw [BitVec.toNat_or, BitVec.toNat_ushiftRight, BitVec.toNat_shiftLeft]
  rfl
theorem xor_eq (x y : W32) : (x ^^^ y).toNat = Nat.xor x.toNat y.toNat := BitVec.toNat_xor x y
theorem and_eq (x y : W32) : (x &&& y).toNat = Nat.land x.toNat y.toNat := BitVec.toNat_and x y
theorem add_eq (x y : W32) : (x + y).toNat = m32 (Nat.add x.toNat y.toNat) := BitVec.toNat_add x y
theorem shr_eq (x : W32) (k : Nat) : (x >>> k).toNat = Nat.shiftRight x.toNat k := BitVec.toNat_ushiftRight x k
theorem notN_eq (x : W32) : (~~~x).toNat = Nat.sub 4294967295 x.toNat := by
  rw [BitVec.toNat_not]; rfl
theorem big0_eq (x : W32) : (big0 x).toNat = big0N x.toNat := by
  unfold big0 big0N; rw [xor_eq, xor_eq, rotN_eq _ _ (by decide), rotN_eq _ _ (by decide), rotN_eq _ _ (by decide)]
theorem big1_eq (x : W32) : (big1 x).toNat = big1N x.toNat := by
  unfold big1 big1N; rw [xor_eq, xor_eq, rotN_eq _ _ (by decide), rotN_eq _ _ (by decide), rotN_eq _ _ (by decide)]
theorem sml0_eq (x : W32) : (sml0 x).toNat = sml0N x.toNat := by
  unfold sml0 sml0N; rw [xor_eq, xor_eq, rotN_eq _ _ (by decide), rotN_eq _ _ (by decide), shr_eq]
theorem sml1_eq (x : W32) : (sml1 x).toNat = sml1N x.toNat := by
  unfold sml1 sml1N; rw [xor_eq, xor_eq, rotN_eq _ _ (by decide), rotN_eq _ _ (by decide), shr_eq]
def t1N (h e f g k w : Nat) : Nat := m32 (Nat.add (m32 (Nat.add (m32 (Nat.add (m32 (Nat.add h (big1N e))) (chN e f g))) k)) w)
def t2N (a b c : Nat) : Nat := m32 (Nat.add (big0N a) (majN a b c))
theorem t1_eq (s : S8) (k w : W32) : (tOne s k w).toNat = t1N s.h.toNat s.e.toNat s.f.toNat s.g.toNat k.toNat w.toNat := by
  unfold tOne t1N chN
  rw [add_eq, add_eq, add_eq, add_eq, big1_eq, xor_eq, and_eq, and_eq, notN_eq]
theorem t2_eq (s : S8) : (tTwo s).toNat = t2N s.a.toNat s.b.toNat s.c.toNat := by
  unfold tTwo t2N majN
  rw [add_eq, big0_eq, xor_eq, xor_eq, and_eq, and_eq, and_eq]
/-- The rounds that are left, by their constants, over the last words. -/
def goN : List Nat → Nat → Nat → Nat → Nat → Nat → Nat → Nat → Nat → Nat → Nat → Nat → Nat → Nat → Nat → Nat → Nat → Nat → Nat → Nat → Nat → Nat → Nat → Nat → Nat → (Nat → Nat → Nat → Nat → Nat → Nat → Nat → Nat → List Nat) → List Nat
  | [], a, b, c, d, e, f, g, h, _, _, _, _, _, _, _, _, _, _, _, _, _, _, _, _, K => K a b c d e f g h
  | k :: ks, a, b, c, d, e, f, g, h, w0, w1, w2, w3, w4, w5, w6, w7, w8, w9, w10, w11, w12, w13, w14, w15, K =>
    frc (t1N h e f g k w0) fun t => frc (m32 (Nat.add t (t2N a b c))) fun a' => frc (m32 (Nat.add d t)) fun e' => frc (m32 (Nat.add (m32 (Nat.add (m32 (Nat.add w0 (sml0N w1))) w9)) (sml1N w14))) fun w16 =>
      goN ks a' a b c e' e f g w1 w2 w3 w4 w5 w6 w7 w8 w9 w10 w11 w12 w13 w14 w15 w16 K
theorem wAt_wseq (b : List W32) {n i : Nat} (h : i < n) : wAt (wseq b n) i = wAt (wseq b (i + 1)) i := by
  induction n with
  | zero => omega
  | succ n ih =>
    by_cases e : i = n
    · subst e; rfl
    · rw [← ih (by omega)]
      have hl := wseq_length b n
      conv => lhs; rw [wseq]
      unfold wAt
      rw [List.getD_eq_getElem?_getD, List.getElem?_append_left (by omega), List.getD_eq_getElem?_getD]
/-- The words of a block, all of them. -/
def wW (b : List W32) (i : Nat) : W32 := wAt (wseq b (i + 1)) i
theorem wW_lo (b : List W32) {i : Nat} (h : i < 16) : wW b i = wAt b i := by
  have hl := wseq_length b i
  unfold wW
  rw [wseq, if_pos h]
  unfold wAt
  rw [List.getD_eq_getElem?_getD, List.getElem?_append_right (by omega)]
  simp [hl, List.getD_eq_getElem?_getD]
theorem wW_hi (b : List W32) (i : Nat) : wW b (i + 16) = wW b i + sml0 (wW b (i + 1)) + wW b (i + 9) + sml1 (wW b (i + 14)) := by
  have hl := wseq_length b (i + 16)
  conv => lhs; unfold wW; rw [wseq, if_neg (by omega)]
  have e : ∀ x : W32, wAt (wseq b (i + 16) ++ [x]) (i + 16) = x := fun x => by
    unfold wAt
    rw [List.getD_eq_getElem?_getD, List.getElem?_append_right (by omega), hl, Nat.sub_self]
    rfl
  rw [e]
  rw [show i + 16 - 16 = i by omega, show i + 16 - 15 = i + 1 by omega, show i + 16 - 7 = i + 9 by omega, show i + 16 - 2 = i + 14 by omega]
  rw [wAt_wseq b (by omega), wAt_wseq b (show i + 1 < i + 16 by omega), wAt_wseq b (show i + 9 < i + 16 by omega), wAt_wseq b (show i + 14 < i + 16 by omega)]
  rfl
def kN : List Nat := kTab.map BitVec.toNat
theorem kN_drop {n : Nat} (h : n < 64) : kN.drop n = (wAt kTab n).toNat :: kN.drop (n + 1) := by
  have hl : kN.length = 64 := rfl
  rw [List.drop_eq_getElem_cons (by omega)]
  congr 1
  unfold kN wAt
  rw [List.getElem_map, List.getD_eq_getElem?_getD, List.getElem?_eq_getElem (show n < kTab.length from h)]
  rfl
theorem goN_eq (b : List W32) (s : S8) (K : Nat → Nat → Nat → Nat → Nat → Nat → Nat → Nat → List Nat) : ∀ (d n : Nat), n + d = 64 → ∀ (t : S8), t = rnds (wseq b 64) s n →
    goN (kN.drop n) t.a.toNat t.b.toNat t.c.toNat t.d.toNat t.e.toNat t.f.toNat t.g.toNat t.h.toNat (wW b n).toNat (wW b (n + 1)).toNat (wW b (n + 2)).toNat (wW b (n + 3)).toNat (wW b (n + 4)).toNat (wW b (n + 5)).toNat (wW b (n + 6)).toNat (wW b (n + 7)).toNat (wW b (n + 8)).toNat (wW b (n + 9)).toNat (wW b (n + 10)).toNat (wW b (n + 11)).toNat (wW b (n + 12)).toNat (wW b (n + 13)).toNat (wW b (n + 14)).toNat (wW b (n + 15)).toNat K
    = (fun r : S8 => K r.a.toNat r.b.toNat r.c.toNat r.d.toNat r.e.toNat r.f.toNat r.g.toNat r.h.toNat) (rnds (wseq b 64) s 64) := by
  intro d
  induction d with
  | zero =>
    intro n hn t ht
    obtain rfl : n = 64 := by omega
    subst ht
    rw [List.drop_eq_nil_of_le (show kN.length ≤ 64 from Nat.le_refl _)]
    rfl
  | succ d ih =>
    intro n hn t ht
    rw [kN_drop (by omega)]
    have h := ih (n + 1) (by omega) (rnd t (wAt kTab n) (wAt (wseq b 64) n)) (by rw [ht]; rfl)
    rw [wAt_wseq b (show n < 64 by omega)] at h
    rw [← h]
    simp only [goN, frc_eq, rnd]
    rw [add_eq, add_eq, t1_eq, t2_eq]
    have e : (wW b (n + 1 + 15)).toNat = m32 (Nat.add (m32 (Nat.add (m32 (Nat.add (wW b n).toNat (sml0N (wW b (n + 1)).toNat))) (wW b (n + 9)).toNat)) (sml1N (wW b (n + 14)).toNat)) := by
      rw [show n + 1 + 15 = n + 16 by omega, wW_hi, add_eq, add_eq, add_eq, sml0_eq, sml1_eq]
    rw [e]
    have k2 : n + 1 + 1 = n + 2 := rfl
    simp only [Nat.add_assoc]
    rfl
end Go.K
end
section
namespace Go.K
open Go
def be4N (a b c d : Nat) : Nat := Nat.add (Nat.add (Nat.mul (Nat.add (Nat.mul a 256) b) 65536) (Nat.mul c 256)) d
def wordsN : List Nat → List Nat
  | a :: b :: c :: d :: r => frc (be4N a b c d) fun w => w :: wordsN r
  | _ => []
def m8 (n : Nat) : Nat := Nat.mod n 256
def outN (w : Nat) (K : Nat → Nat → Nat → Nat → List Nat) : List Nat := frc (m8 (Nat.div w 16777216)) fun a => frc (m8 (Nat.div w 65536)) fun b => frc (m8 (Nat.div w 256)) fun c => frc (m8 w) fun d => K a b c d
def out8 (a b c d e f g h : Nat) : List Nat :=
  outN a fun a1 a2 a3 a4 => outN b fun b1 b2 b3 b4 => outN c fun c1 c2 c3 c4 => outN d fun d1 d2 d3 d4 => outN e fun e1 e2 e3 e4 => outN f fun f1 f2 f3 f4 => outN g fun g1 g2 g3 g4 => outN h fun h1 h2 h3 h4 =>
    [a1, a2, a3, a4, b1, b2, b3, b4, c1, c2, c3, c4, d1, d2, d3, d4, e1, e2, e3, e4, f1, f2, f3, f4, g1, g2, g3, g4, h1, h2, h3, h4]
def runN : Nat → List Nat → Nat → Nat → Nat → Nat → Nat → Nat → Nat → Nat → List Nat
  | 0, _, a, b, c, d, e, f, g, h => out8 a b c d e f g h
  | n + 1, ws, a, b, c, d, e, f, g, h => match ws with
    | w0 :: w1 :: w2 :: w3 :: w4 :: w5 :: w6 :: w7 :: w8 :: w9 :: w10 :: w11 :: w12 :: w13 :: w14 :: w15 :: ws =>
      goN kN a b c d e f g h w0 w1 w2 w3 w4 w5 w6 w7 w8 w9 w10 w11 w12 w13 w14 w15 fun a' b' c' d' e' f' g' h' =>
        frc (m32 (Nat.add a a')) fun a => frc (m32 (Nat.add b b')) fun b => frc (m32 (Nat.add c c')) fun c => frc (m32 (Nat.add d d')) fun d => frc (m32 (Nat.add e e')) fun e => frc (m32 (Nat.add f f')) fun f => frc (m32 (Nat.add g g')) fun g => frc (m32 (Nat.add h h')) fun h =>
          runN n ws a b c d e f g h
    | _ => []
def padNN (l : List Nat) : List Nat := l ++ 128 :: (List.replicate (padN l.length) 0 ++ (leL (l.length * 8) 8).reverse.map UInt8.toNat)
def shaN (l : List Nat) : List Nat := runN (Nat.div (padNN l).length 64) (wordsN (padNN l)) 1779033703 3144134277 1013904242 2773480762 1359893119 2600822924 528734635 1541459225
theorem be32_toNat (l : List UInt8) : (be32 l).toNat = be4N (l.getD 0 0).toNat (l.getD 1 0).toNat (l.getD 2 0).toNat (l.getD 3 0).toNat := by
  have h0 := (l.getD 0 0).toNat_lt
  have h1 := (l.getD 1 0).toNat_lt
  have h2 := (l.getD 2 0).toNat_lt
  have h3 := (l.getD 3 0).toNat_lt
  unfold be32 be4N
  rw [BitVec.toNat_ofNat]
  simp only [Nat.add_eq, Nat.mul_eq]
  omega
theorem wordsN_step (l : List UInt8) (h : 4 ≤ l.length) : wordsN (l.map UInt8.toNat) = (be32 l).toNat :: wordsN ((l.drop 4).map UInt8.toNat) := by
  match l, h with
  | a :: b :: c :: d :: r, _ =>
    rw [be32_toNat]
    simp only [List.map_cons, wordsN, frc_eq, List.drop_succ_cons, List.drop_zero]
    rfl
theorem wW_blk (l : List UInt8) {i : Nat} (h : i < 16) : wW (blkW l) i = be32 (l.drop (4 * i)) := by
  rw [wW_lo _ h]
  unfold wAt blkW
  rw [List.getD_eq_getElem?_getD, List.getElem?_map, List.getElem?_range h]; rfl
theorem wordsN_blk (l : List UInt8) (h : 64 ≤ l.length) : wordsN (l.map UInt8.toNat) = (wW (blkW l) 0).toNat :: (wW (blkW l) 1).toNat :: (wW (blkW l) 2).toNat :: (wW (blkW l) 3).toNat :: (wW (blkW l) 4).toNat :: (wW (blkW l) 5).toNat :: (wW (blkW l) 6).toNat :: (wW (blkW l) 7).toNat :: (wW (blkW l) 8).toNat :: (wW (blkW l) 9).toNat :: (wW (blkW l) 10).toNat :: (wW (blkW l) 11).toNat :: (wW (blkW l) 12).toNat :: (wW (blkW l) 13).toNat :: (wW (blkW l) 14).toNat :: (wW (blkW l) 15).toNat :: wordsN ((l.drop 64).map UInt8.toNat) := by
  have st : ∀ k, 4 * k + 4 ≤ l.length → wordsN ((l.drop (4 * k)).map UInt8.toNat) = (be32 (l.drop (4 * k))).toNat :: wordsN ((l.drop (4 * (k + 1))).map UInt8.toNat) := fun k hk => by
    rw [wordsN_step _ (by rw [List.length_drop]; omega), List.drop_drop]; rfl
  rw [wW_blk l (show 0 < 16 by decide), wW_blk l (show 1 < 16 by decide), wW_blk l (show 2 < 16 by decide), wW_blk l (show 3 < 16 by decide), wW_blk l (show 4 < 16 by decide), wW_blk l (show 5 < 16 by decide), wW_blk l (show 6 < 16 by decide), wW_blk l (show 7 < 16 by decide), wW_blk l (show 8 < 16 by decide), wW_blk l (show 9 < 16 by decide), wW_blk l (show 10 < 16 by decide), wW_blk l (show 11 < 16 by decide), wW_blk l (show 12 < 16 by decide), wW_blk l (show 13 < 16 by decide), wW_blk l (show 14 < 16 by decide), wW_blk l (show 15 < 16 by decide)]
  rw [← st 15 (by omega), ← st 14 (by omega), ← st 13 (by omega), ← st 12 (by omega), ← st 11 (by omega), ← st 10 (by omega), ← st 9 (by omega), ← st 8 (by omega), ← st 7 (by omega), ← st 6 (by omega), ← st 5 (by omega), ← st 4 (by omega), ← st 3 (by omega), ← st 2 (by omega), ← st 1 (by omega), ← st 0 (by omega)]
  rfl
theorem runN_eq (m : List UInt8) (N : Nat) (hm : m.length = 64 * N) : ∀ (d n : Nat), n + d = N → ∀ t : S8, t = runP m n →
    runN d (wordsN ((m.drop (64 * n)).map UInt8.toNat)) t.a.toNat t.b.toNat t.c.toNat t.d.toNat t.e.toNat t.f.toNat t.g.toNat t.h.toNat = (fun r : S8 => out8 r.a.toNat r.b.toNat r.c.toNat r.d.toNat r.e.toNat r.f.toNat r.g.toNat r.h.toNat) (runP m N) := by
  intro d
  induction d with
  | zero =>
    intro n hn t ht
    obtain rfl : n = N := by omega
    subst ht; rfl
  | succ d ih =>
    intro n hn t ht
    rw [wordsN_blk _ (by rw [List.length_drop]; omega)]
    simp only [runN]
    have hg := goN_eq (blkW (m.drop (64 * n))) t (fun a' b' c' d' e' f' g' h' =>
        frc (m32 (Nat.add t.a.toNat a')) fun a => frc (m32 (Nat.add t.b.toNat b')) fun b => frc (m32 (Nat.add t.c.toNat c')) fun c => frc (m32 (Nat.add t.d.toNat d')) fun d1 => frc (m32 (Nat.add t.e.toNat e')) fun e => frc (m32 (Nat.add t.f.toNat f')) fun f => frc (m32 (Nat.add t.g.toNat g')) fun g => frc (m32 (Nat.add t.h.toNat h')) fun h =>
          runN d (wordsN (((m.drop (64 * n)).drop 64).map UInt8.toNat)) a b c d1 e f g h) 64 0 rfl t rfl
    refine Eq.trans hg ?_
    simp only [frc_eq]
    have hi := ih (n + 1) (by omega) (comp t (m.drop (64 * n))) (by rw [ht]; rfl)
    refine Eq.trans ?_ hi
    rw [List.drop_drop]
    simp only [comp, add8, add_eq]
    rfl
theorem shaS_N (L : List UInt8) : shaS (str L) = str ((shaN (L.map UInt8.toNat)).map UInt8.ofNat) := by
  have hL : (str L).data.toList = L := by simp [str]
  have hpl := padL_length L
  have hp : (padL L).map UInt8.toNat = padNN (L.map UInt8.toNat) := by
    unfold padL padNN
    simp
  have hlen : (padNN (L.map UInt8.toNat)).length = (padL L).length := by rw [← hp, List.length_map]
  unfold shaS
  rw [hL]
  have h := runN_eq (padL L) ((padL L).length / 64) (by omega) ((padL L).length / 64) 0 (by omega) s8Init rfl
  rw [Nat.mul_zero, List.drop_zero, hp] at h
  have e : shaN (L.map UInt8.toNat) = runN ((padL L).length / 64) (wordsN (padNN (L.map UInt8.toNat))) s8Init.a.toNat s8Init.b.toNat s8Init.c.toNat s8Init.d.toNat s8Init.e.toNat s8Init.f.toNat s8Init.g.toNat s8Init.h.toNat := by
    unfold shaN; rw [hlen]; rfl
  rw [e, h]
  generalize runP (padL L) ((padL L).length / 64) = r
  have o : ∀ x : W32, (leL x.toNat 4).reverse = [UInt8.ofNat (m8 (Nat.div x.toNat 16777216)), UInt8.ofNat (m8 (Nat.div x.toNat 65536)), UInt8.ofNat (m8 (Nat.div x.toNat 256)), UInt8.ofNat (m8 x.toNat)] := fun x => by
    have u : ∀ n, UInt8.ofNat (m8 n) = UInt8.ofNat n := fun n => by
      apply UInt8.toNat_inj.1; rw [UInt8.toNat_ofNat', UInt8.toNat_ofNat']; exact Nat.mod_mod_of_dvd n (Nat.dvd_refl _)
    rw [u, u, u, u]
    simp [leL]
    exact ⟨rfl, rfl, rfl⟩
  unfold outW catB out8 outN
  simp only [S8.l, List.map_cons, List.map_nil, List.foldl_cons, List.foldl_nil, frc_eq, o, str_append]
  rfl
end Go.K
end
section
namespace Go.K
open Go
/-- It spends one output, and has n alike. -/
def nxG (id : ByteArray) (i m q n : Nat) (s : ByteArray) : Tx := ⟨2, [⟨⟨id, (i : Nat)⟩, (q : Nat), []⟩], List.replicate n ⟨0, s⟩, (m : Nat)⟩
def nxT (id : ByteArray) (i m n : Nat) : Tx := nxG id i m 4294967293 n ⟨#[]⟩
def vnL (n : Nat) : List UInt8 := if n < 253 then leL n 1 else leL 253 1 ++ leL n 2
def encU (L : List UInt8) (i m q n : Nat) (s : List UInt8) : List UInt8 := leL 2 4 ++ leL 1 1 ++ (L ++ leL i 4 ++ leL 0 1 ++ leL q 4) ++ vnL n ++ (List.replicate n (leL 0 8 ++ (vnL s.length ++ s))).flatten ++ leL m 4
end Go.K
end
section
namespace Go.K
open Go
def sc9 : List UInt8 := [1, 1, 0, 0, 0, 0, 0, 0, 0]
def oneM (L : List UInt8) (m : Nat) : Tx := ⟨2, [⟨⟨str L, 0⟩, 4294967293, []⟩], [⟨1000, str sc9⟩], (m : Nat)⟩
def encM (L : List UInt8) (m : Nat) : List UInt8 := leL 2 4 ++ leL 1 1 ++ (L ++ leL 0 4 ++ leL 0 1 ++ leL 4294967293 4) ++ leL 1 1 ++ (leL 1000 8 ++ (leL 9 1 ++ sc9)) ++ leL m 4
theorem encT_one {L : List UInt8} {m : Nat} (hm : m < 4294967296) : encT false (oneM L m) = str (encM L m) := by
  have u : ∀ k : Nat, k < 4294967296 → u64N (k : Int) = k := fun k hk => by unfold u64N; omega
  have u2 : u64N 2 = 2 := rfl
  have u0 : u64N 0 = 0 := rfl
  have u1 : u64N 1000 = 1000 := rfl
  have uq : u64N 4294967293 = 4294967293 := rfl
  have n0 : (⟨#[]⟩ : ByteArray) = str [] := rfl
  have v0 : vnS 0 = str (leL 0 1) := rfl
  have v1 : vnS 1 = str (leL 1 1) := rfl
  have v9 : vnS (str sc9).size = str (leL 9 1) := rfl
  have c : catB encOut [⟨1000, str sc9⟩] = str (leL 1000 8 ++ (leL 9 1 ++ sc9)) := by
    unfold catB encOut
    simp only [List.map_cons, List.map_nil, List.foldl_cons, List.foldl_nil]
    rw [u1, v9, n0]
    unfold leS
    rw [str_append, str_append, str_append, List.nil_append]
  have d : catB encIn [⟨⟨str L, 0⟩, 4294967293, []⟩] = str (L ++ leL 0 4 ++ leL 0 1 ++ leL 4294967293 4) := by
    unfold catB encIn
    simp only [List.map_cons, List.map_nil, List.foldl_cons, List.foldl_nil]
    rw [u0, uq, v0, n0]
    unfold leS
    rw [str_append, str_append, str_append, str_append, List.nil_append]
  unfold encT enc4 enc3 enc2 enc1 encHead oneM
  simp only [Bool.false_eq_true, if_false, List.length_cons, List.length_nil, u m hm]
  rw [c, d, n0]
  show str (leL 2 4) ++ str [] ++ vnS 1 ++ _ ++ vnS 1 ++ _ ++ str [] ++ str (leL m 4) = _
  rw [v1, str_append, str_append, str_append, str_append, str_append, str_append, str_append]
  unfold encM
  simp
theorem idT_one {L : List UInt8} {m : Nat} (hm : m < 4294967296) {R : List UInt8} (h : shaN (((shaN ((encM L m).map UInt8.toNat)).map UInt8.ofNat).map UInt8.toNat) = R.map UInt8.toNat) : idT (oneM L m) = str R := by
  unfold idT sha2
  rw [encT_one hm, shaS_N, shaS_N, h]
  congr 1
  rw [List.map_map]
  have : ∀ l : List UInt8, l.map (UInt8.ofNat ∘ UInt8.toNat) = l := fun l => by
    induction l with
    | nil => rfl
    | cons x l ih => rw [List.map_cons, ih]; simp
  exact this R
theorem sizeT_one {L : List UInt8} {m : Nat} (hm : m < 4294967296) (hL : L.length = 32) : sizeT (oneM L m) = 69 := by
  have hw : witB (oneM L m) = false := rfl
  unfold sizeT weightT
  rw [hw, encT_one hm, str_size]
  have e : (encM L m).length = 69 := by
    unfold encM
    simp [leL_length, hL, sc9]
  rw [e]
def idL (n : Nat) : List UInt8 := (List.range 32).map fun i => UInt8.ofNat (n / 2 ^ (i % 8)) ^^^ UInt8.ofNat i
theorem idL_len (n : Nat) : (idL n).length = 32 := by simp [idL]
theorem idN_L (n : Nat) : idN n = str (idL n) := rfl
def r80 : List UInt8 := [25, 42, 22, 115, 193, 51, 64, 181, 222, 26, 82, 10, 253, 151, 117, 98, 228, 107, 119, 5, 141, 58, 45, 0, 248, 199, 16, 181, 194, 251, 33, 230]
theorem id_r80 : idT (oneM (idL 8) 0) = str r80 := idT_one (by decide) (by decide +kernel)
def r81 : List UInt8 := [85, 40, 66, 161, 200, 85, 100, 165, 98, 137, 72, 194, 78, 42, 44, 146, 15, 139, 196, 191, 131, 155, 54, 191, 231, 92, 189, 20, 214, 255, 49, 68]
def r90 : List UInt8 := [224, 231, 132, 22, 155, 147, 84, 141, 189, 81, 171, 96, 167, 26, 13, 249, 123, 4, 161, 235, 106, 182, 26, 208, 68, 46, 184, 58, 28, 38, 199, 133]
end Go.K
end
section
namespace Go.K
open Go
def eA (f : Int) : Ent := ⟨oneM (idL 8) 0, str r80, f, 69⟩
def eB (f : Int) : Ent := ⟨oneM (idL 9) 0, str r90, f, 69⟩
theorem add_A {f : Int} (hc : checkT (oneM (idL 8) 0) = 0) (hg : grantB (oneM (idL 8) 0) = false) (hf : goodB f = true) : addG [] (oneM (idL 8) 0) f = ([eA f], 0) := by
  rw [addG_new hc hg hf]; unfold eA
  rw [id_r80, sizeT_one (by decide) (idL_len 8)]; rfl
end Go.K
end
section
namespace Go.Proofs.YtbnhinpegbcbeaaGreat
open Go Go.K
theorem makeN_one (n mark : UInt8) (f : Int) : makeN ⟨[n], 0, 0, f, mark, 0⟩ = oneM (idL (n.toNat % 16)) mark.toNat := by
  have hp : pI ⟨[n], 0, 0, f, mark, 0⟩ 0 = 0 := pI_zero rfl
  unfold makeN oneM
  have e1 : insN ⟨[n], 0, 0, f, mark, 0⟩ (min [n].length 4) = [⟨⟨str (idL (n.toNat % 16)), 0⟩, 4294967293, []⟩] := by
    show insN _ 1 = _
    unfold insN
    show [(⟨⟨idN (n.toNat % 16), pI ⟨[n], 0, 0, f, mark, 0⟩ 0⟩, 4294967293, []⟩ : TIn)] = _
    rw [hp, idN_L]
  rw [e1]
  rfl
attribute [local irreducible] regK codeK retK KOp.wp K.Spec u32 leS vnS str zero32 sha2 encT idT sizeT checkT grantB idN stepR workL reachE findI dropG addG trimL oneM idL
attribute [local irreducible] makeN eA eB wS
abbrev zS200 : Small := ⟨[200], 0, 0, 0, 0, 0⟩
abbrev zS201 : Small := ⟨[201], 0, 0, 0, 0, 0⟩
end Go.Proofs.YtbnhinpegbcbeaaGreat
end
section
namespace Go.Proofs.YtbnhinpegbcbeaaGreat
open Go Go.K
attribute [local irreducible] regK codeK retK KOp.wp K.Spec u32 leS vnS str zero32 sha2 encT idT sizeT checkT grantB idN stepR workL reachE findI dropG addG aboveL belowL idsOf feeD sizeD cntS metL confL evL inS inB needI needL feeOf needN needE mayE freshP
theorem rules1_hb : hasBody Tryz.prog F.replace_Rules_1 = true := by kernel_rfl
theorem rules1_spec {g b2 : Nat} {M : List Nat} {l : List Ent} (s : ByteArray) (w : World) (hG : GrR w g M l) (hM : ∀ b ∈ M, b < w.heap.size) (hl : l.length ≤ 1000) (hr : Row w ⟨b2, 0, none⟩ [.pointer (some ⟨g, 0, none⟩)]) :
    K.Spec Tryz.prog F.replace_Rules_1 [.string s, .pointer (some ⟨b2, 0, none⟩)] w fun r w' => r = .bool (!mayE l (getE l s)) ∧ Ext w w' := by
  refine s_replace_Rules_1 rfl ?_
  unfold k_replace_Rules_1
  refine ox ?_
  repeat' (first|(first|refine go1 ?_|refine zg (fun _ _=>?_)|refine zi (fun _ _=>?_))|(refine zC (d := some 6) rfl (repl_spec (M := M) (l := l) s _ (hG.ext (by exact fx)) (fun b hb => Nat.lt_of_lt_of_le (hM b hb) (Ext.size (by exact fx))) hl) ?_; rintro _ w5 ⟨rfl, x5⟩))
  exact x_ret rfl ⟨rfl, by exact fx⟩
theorem rules_nil {cs : List Value} {iv ov : Value} {t : Tx} (fee : Int) (he : cs = txCs t iv ov) (w : World) (h1 : iv.oneCell' = true) (h2 : ov.oneCell' = true) : K.Spec Tryz.prog F.replace_Rules [.pointer none, .agg cs.toArray, .int .i64 fee] w fun r w' => r = .int .i64 1 ∧ Ext w w' := by
  subst he
  refine s_replace_Rules rfl ?_
  unfold k_replace_Rules
  refine ox ?_
  repeat' (first|(first|refine go1 ?_|refine zg (fun _ _=>?_)|refine zi (fun _ _=>?_))|(refine zD (d := some 3) rfl rfl (fun bg wg xg bg' (rg : Row wg ⟨bg, 0, none⟩ [.pointer none]) hbg0=>?_))|(refine zD (d := some 4) rfl rfl (fun bt wt xt bt' (rt : Row wt ⟨bt, 0, none⟩ (txCs t iv ov)) hbt0=>?_)))
  exact x_ret rfl ⟨rfl, by exact fx⟩
theorem hit_may {l : List Ent} {t : Tx} (h : l.any (hitE t) = false) : (l.any fun x => hitE t x && !mayE l x) = false := by
  rw [List.any_eq_false] at h ⊢
  intro x hx h2
  rw [Bool.and_eq_true] at h2
  exact h x hx h2.1
set_option maxHeartbeats 4000000 in
theorem rules_spec {g : Nat} {M N : List Nat} {l : List Ent} {cs : List Value} {t : Tx} (fee : Int) (w : World) (hG : GrR w g M l) (hM : ∀ b ∈ M, b < w.heap.size) (ht : txR.rel N w cs t) (hs : t.Sm) (hl : l.length ≤ 1000) (hf : ∀ x ∈ l, x.fee ≤ 1000000000000) :
    K.Spec Tryz.prog F.replace_Rules [.pointer (some ⟨g, 0, none⟩), .agg cs.toArray, .int .i64 fee] w fun r w' => r = .int .i64 (rulesL l t fee) ∧ Ext w w' := by
  have hnd := hG.nodup
  have hE := hG.ok
  have hlc := idsOf_le1 l (confL l t)
  have hle := idsOf_le1 l (evL l t)
  have ht0 := ht
  obtain ⟨iv, ov, rfl, hi, ho, hv⟩ := ht
  by_cases hc : checkT t = 0
  · have e0 : sizeV t = .tuple #[.int .i64 (sizeT t : Nat), .int .i64 0] := by rw [sizeV, if_pos hc]
    have hz := (sz_of_check hs hc).sizeM
    cases hgf : goodB fee with
    | false =>
      have e : rulesL l t fee = 3 := by rw [rulesL, if_neg (by simpa using hc), if_pos hgf]
      rw [e]
      obtain ⟨nN, hnN⟩ : ∃ n, needN l t = n := ⟨_, rfl⟩
      obtain ⟨nE, hnE⟩ : ∃ n, needE l t = n := ⟨_, rfl⟩
      refine s_replace_Rules rfl ?_
      unfold k_replace_Rules
      refine ox ?_
      repeat' (first|(refine st_joinV (b := .cons ⟨some 39, _, _⟩ _) (fun (vc : Value) w' => Ext w4 w' ∧ Own strE T.string w4.heap.size w' vc (idsOf l (confL l t))) (fun vc => [(2, .int .i64 fee), (3, .pointer (some ⟨bg, 0, none⟩)), (4, .pointer (some ⟨bt, 0, none⟩)), (9, .int .i64 nN), (36, vc), (37, .pointer (some ⟨g, 0, none⟩)), (38, .agg (txCs t iv ov).toArray)]) ?_ ?_)|(rintro vc ρ7 w7 ⟨x7, oc⟩; have sc := oc.sl; try dsimp only)|(exact ⟨v6, ⟨rfl, rfl, rfl, rfl, rfl, rfl, rfl, trivial⟩, by exact fx, Own.lower (Own.ext (by exact fx) o6) (Ext.size (by exact fx))⟩)|(refine zF (d := some 32) (v := .bool false) (by show some (Value.bool (goodB fee)) = _; rw [hgf]) ?_)|(first|refine go1 ?_|refine zg (fun _ _=>?_)|refine zi (fun _ _=>?_))|(refine zD (d := some 3) rfl rfl (fun bg wg xg bg' (rg : Row wg ⟨bg, 0, none⟩ [.pointer (some ⟨g, 0, none⟩)]) hbg0=>?_))|(refine zD (d := some 4) rfl rfl (fun bt wt xt bt' (rt : Row wt ⟨bt, 0, none⟩ (txCs t iv ov)) hbt0=>?_))|(refine zC (d := some 17) rfl (size_spec (M := N) (cs := txCs t iv ov) (t := t) _ (R.ext ht0 (by exact fx)) hs) ?_; rintro _ w3 ⟨rfl, x3⟩; rw [e0])|(refine zC (d := some 26) rfl (need_spec (M := M) (N := N) (l := l) (cs := txCs t iv ov) (t := t) _ (hG.ext (by exact fx)) (fun b hb => Nat.lt_of_lt_of_le (hM b hb) (Ext.size (by exact fx))) (R.ext ht0 (by exact fx)) hs hl hf) ?_; rintro _ w4 ⟨rfl, x4⟩; rw [hnN, hnE])|(refine st_both ?_ ?_)|(refine zC (d := some 36) rfl (conflicts_spec (M := M) (N := N) (l := l) (cs := txCs t iv ov) (t := t) _ (hG.ext (by exact fx)) (fun b hb => Nat.lt_of_lt_of_le (hM b hb) (Ext.size (by exact fx))) (R.ext ht0 (by exact fx)) hs.ins hl) ?_; rintro v6 w6 ⟨o6, x6⟩)|(refine zC (d := some 39) rfl (evicted_spec (M := M) (N := N) (l := l) (cs := txCs t iv ov) (t := t) _ (hG.ext (by exact fx)) (fun b hb => Nat.lt_of_lt_of_le (hM b hb) (Ext.size (by exact fx))) (R.ext ht0 (by exact fx)) hs.ins hl) ?_; rintro vg w8 ⟨og, x8⟩; have sg := og.sl)|(refine st_len (d := some 42) (E := strE) (l := idsOf l (confL l t)) rfl (SlE.ext (by exact fx) sc) ?_))
      repeat' (first|(refine zF (d := some 32) (v := .bool false) (by show some (Value.bool (goodB fee)) = _; rw [hgf]) ?_)|(first|refine go1 ?_|refine zg (fun _ _=>?_)|refine zi (fun _ _=>?_))|(refine zN (p := nE = 0) rfl (fun _ => ?_) (fun _ => ?_)))
      all_goals exact x_ret rfl ⟨rfl, by exact fx⟩
    | true =>
      cases hh : l.any (hitE t) with
      | false =>
        have e : rulesL l t fee = 0 := by rw [rulesL, if_neg (by simpa using hc), if_neg (by rw [hgf]; simp), if_neg (by rw [hit_may hh]; simp), if_pos hh]
        rw [e]
        have hnN : needN l t = 0 := by unfold needN; rw [if_neg (by simpa using hc), if_pos hh]
        have hnE : needE l t = 0 := by unfold needE; rw [if_neg (by simpa using hc), if_pos hh]
        have hlen : (idsOf l (confL l t)).length = 0 := conf_len0.2 hh
        refine s_replace_Rules rfl ?_
        unfold k_replace_Rules
        refine ox ?_
        repeat' (first|(refine st_joinV (b := .cons ⟨some 39, _, _⟩ _) (fun (vc : Value) w' => Ext w4 w' ∧ Own strE T.string w4.heap.size w' vc (idsOf l (confL l t))) (fun vc => [(2, .int .i64 fee), (3, .pointer (some ⟨bg, 0, none⟩)), (4, .pointer (some ⟨bt, 0, none⟩)), (9, .int .i64 0), (36, vc), (37, .pointer (some ⟨g, 0, none⟩)), (38, .agg (txCs t iv ov).toArray)]) ?_ ?_)|(rintro vc ρ7 w7 ⟨x7, oc⟩; have sc := oc.sl; try dsimp only)|(exact ⟨v6, ⟨rfl, rfl, rfl, rfl, rfl, rfl, rfl, trivial⟩, by exact fx, Own.lower (Own.ext (by exact fx) o6) (Ext.size (by exact fx))⟩)|(refine zF (d := some 32) (v := .bool true) (by show some (Value.bool (goodB fee)) = _; rw [hgf]) ?_)|(first|refine go1 ?_|refine zg (fun _ _=>?_)|refine zi (fun _ _=>?_))|(refine zD (d := some 3) rfl rfl (fun bg wg xg bg' (rg : Row wg ⟨bg, 0, none⟩ [.pointer (some ⟨g, 0, none⟩)]) hbg0=>?_))|(refine zD (d := some 4) rfl rfl (fun bt wt xt bt' (rt : Row wt ⟨bt, 0, none⟩ (txCs t iv ov)) hbt0=>?_))|(refine zC (d := some 17) rfl (size_spec (M := N) (cs := txCs t iv ov) (t := t) _ (R.ext ht0 (by exact fx)) hs) ?_; rintro _ w3 ⟨rfl, x3⟩; rw [e0])|(refine zC (d := some 26) rfl (need_spec (M := M) (N := N) (l := l) (cs := txCs t iv ov) (t := t) _ (hG.ext (by exact fx)) (fun b hb => Nat.lt_of_lt_of_le (hM b hb) (Ext.size (by exact fx))) (R.ext ht0 (by exact fx)) hs hl hf) ?_; rintro _ w4 ⟨rfl, x4⟩; rw [hnN, hnE])|(refine st_both ?_ ?_)|(refine zC (d := some 36) rfl (conflicts_spec (M := M) (N := N) (l := l) (cs := txCs t iv ov) (t := t) _ (hG.ext (by exact fx)) (fun b hb => Nat.lt_of_lt_of_le (hM b hb) (Ext.size (by exact fx))) (R.ext ht0 (by exact fx)) hs.ins hl) ?_; rintro v6 w6 ⟨o6, x6⟩)|(refine zC (d := some 39) rfl (evicted_spec (M := M) (N := N) (l := l) (cs := txCs t iv ov) (t := t) _ (hG.ext (by exact fx)) (fun b hb => Nat.lt_of_lt_of_le (hM b hb) (Ext.size (by exact fx))) (R.ext ht0 (by exact fx)) hs.ins hl) ?_; rintro vg w8 ⟨og, x8⟩; have sg := og.sl)|(refine st_len (d := some 42) (E := strE) (l := idsOf l (confL l t)) rfl (SlE.ext (by exact fx) sc) ?_))
        refine zL rfl (fun _ => ?_) (fun h => absurd (show (((idsOf l (confL l t)).length : Nat) : Int) = 0 by omega) h)
        repeat' (first|refine go1 ?_|refine zg (fun _ _=>?_)|refine zi (fun _ _=>?_))
        exact x_ret rfl ⟨rfl, by exact fx⟩
      | true =>
        have hlen : (idsOf l (confL l t)).length ≠ 0 := fun h => by rw [conf_len0.1 h] at hh; cases hh
        have hpr : Priced l := fun x hx => ent_priced16 (hE x hx)
        have hfp : pricedB fee (sizeT t : Nat) = true := by unfold pricedB; rw [hgf, Bool.true_and]; exact decide_eq_true (by omega)
        have hgb := (gone_bound (t := t) (c := 1000000000000) (fun x hx => ⟨((goodB_iff _).1 (hE x hx).fee).1, hf x hx⟩)).1
        have hnp := needL_pos (l := l) (t := t) hgb hz.1
        obtain ⟨nv, hnv⟩ : ∃ nv, nv = if goodB (needL l t) = true then needL l t else 2100000000000001 := ⟨_, rfl⟩
        have hR : rulesL l t fee = if (l.any fun x => hitE t x && !mayE l x) = true then 15 else if (idsOf l (evL l t)).length > 100 then 15 else if freshP l t = true then 15 else if fee < nv then 11 else 0 := by
          rw [rules_need hnd hpr hh hfp hnv (by omega), rulesL, if_neg (by simpa using hc), if_neg (by rw [hgf]; simp)]
          split
          · rfl
          · rw [if_neg (by rw [hh]; simp)]
        cases hgn : goodB (needL l t) with
        | false =>
          rw [if_neg (by rw [hgn]; simp)] at hnv
          have hnN : needN l t = 0 := by unfold needN; rw [if_neg (by simpa using hc), if_neg (by rw [hh]; simp), if_neg (by rw [hgn]; simp)]
          have hnE : needE l t = 3 := by unfold needE; rw [if_neg (by simpa using hc), if_neg (by rw [hh]; simp), if_neg (by rw [hgn]; simp)]
          refine s_replace_Rules rfl ?_
          unfold k_replace_Rules
          refine ox ?_
          repeat' (first|(refine st_joinV (b := .cons ⟨some 39, _, _⟩ _) (fun (vc : Value) w' => Ext w4 w' ∧ Own strE T.string w4.heap.size w' vc (idsOf l (confL l t))) (fun vc => [(2, .int .i64 fee), (3, .pointer (some ⟨bg, 0, none⟩)), (4, .pointer (some ⟨bt, 0, none⟩)), (9, .int .i64 2100000000000001), (36, vc), (37, .pointer (some ⟨g, 0, none⟩)), (38, .agg (txCs t iv ov).toArray)]) ?_ ?_)|(rintro vc ρ7 w7 ⟨x7, oc⟩; have sc := oc.sl; try dsimp only)|(exact ⟨v6, ⟨rfl, rfl, rfl, rfl, rfl, rfl, rfl, trivial⟩, by exact fx, Own.lower (Own.ext (by exact fx) o6) (Ext.size (by exact fx))⟩)|(refine zF (d := some 32) (v := .bool true) (by show some (Value.bool (goodB fee)) = _; rw [hgf]) ?_)|(first|refine go1 ?_|refine zg (fun _ _=>?_)|refine zi (fun _ _=>?_))|(refine zD (d := some 3) rfl rfl (fun bg wg xg bg' (rg : Row wg ⟨bg, 0, none⟩ [.pointer (some ⟨g, 0, none⟩)]) hbg0=>?_))|(refine zD (d := some 4) rfl rfl (fun bt wt xt bt' (rt : Row wt ⟨bt, 0, none⟩ (txCs t iv ov)) hbt0=>?_))|(refine zC (d := some 17) rfl (size_spec (M := N) (cs := txCs t iv ov) (t := t) _ (R.ext ht0 (by exact fx)) hs) ?_; rintro _ w3 ⟨rfl, x3⟩; rw [e0])|(refine zC (d := some 26) rfl (need_spec (M := M) (N := N) (l := l) (cs := txCs t iv ov) (t := t) _ (hG.ext (by exact fx)) (fun b hb => Nat.lt_of_lt_of_le (hM b hb) (Ext.size (by exact fx))) (R.ext ht0 (by exact fx)) hs hl hf) ?_; rintro _ w4 ⟨rfl, x4⟩; rw [hnN, hnE])|(refine st_both ?_ ?_)|(refine zC (d := some 36) rfl (conflicts_spec (M := M) (N := N) (l := l) (cs := txCs t iv ov) (t := t) _ (hG.ext (by exact fx)) (fun b hb => Nat.lt_of_lt_of_le (hM b hb) (Ext.size (by exact fx))) (R.ext ht0 (by exact fx)) hs.ins hl) ?_; rintro v6 w6 ⟨o6, x6⟩)|(refine zC (d := some 39) rfl (evicted_spec (M := M) (N := N) (l := l) (cs := txCs t iv ov) (t := t) _ (hG.ext (by exact fx)) (fun b hb => Nat.lt_of_lt_of_le (hM b hb) (Ext.size (by exact fx))) (R.ext ht0 (by exact fx)) hs.ins hl) ?_; rintro vg w8 ⟨og, x8⟩; have sg := og.sl)|(refine st_len (d := some 42) (E := strE) (l := idsOf l (confL l t)) rfl (SlE.ext (by exact fx) sc) ?_))
          have sc8 := SlE.ext x8 sc
          have rg8 : Row w8 ⟨bg, 0, none⟩ [.pointer (some ⟨g, 0, none⟩)] := rg.ext (by exact fx)
          have rt8 : Row w8 ⟨bt, 0, none⟩ (txCs t iv ov) := rt.ext (by exact fx)
          have y08 : Ext w w8 := by exact fx
          have G8 := hG.ext y08
          have t8 := R.ext ht0 y08
          have hM8 : ∀ b ∈ M, b < w8.heap.size := fun b hb => Nat.lt_of_lt_of_le (hM b hb) y08.size
          have x08 : Unit → Ext w w8 := fun _ => y08
          clear y08
          have scR : SlR strR [] w8 vc (idsOf l (confL l t)) := SlE.toR (F := strE) (ag := false) sc8 (by simp)
          have tl : ∀ w1, Ext w8 w1 → Tells F.replace_Rules_1 [.pointer (some ⟨bg, 0, none⟩)] strR (fun cs => cs.headD undef) [] w1 (idsOf l (confL l t)) (fun s => !mayE l (getE l s)) := fun w1 x1 x hx w' cs x2 hc => by
            obtain rfl : cs = [Value.string x] := hc
            exact rules1_spec (M := M) x w' (G8.ext (x1.trans x2)) (fun b hb => Nat.lt_of_lt_of_le (hM8 b hb) (x1.trans x2).size) hl (rg8.ext (x1.trans x2))
          clear oc og x8 x7 x4 x3 xt xg rg rt hG ht0 bg' bt' sc
          repeat' (first|(first|refine go1 ?_|refine zg (fun _ _=>?_)|refine zi (fun _ _=>?_))|(refine zL (p := (((idsOf l (confL l t)).length : Nat) : Int) = 0) rfl (fun h => absurd h (by omega)) (fun _ => ?_))|(refine zC (d := some 47) rfl (idxStr_any (l := idsOf l (confL l t)) (M := []) (g := F.replace_Rules_1) (capl := [_]) _ rules1_hb (SlR.ext scR (by exact fx)) (by omega) (tl _ (by exact fx))) ?_; rintro _ w9 ⟨rfl, x9⟩; rw [may_conf hnd])|(refine zM rfl (fun h => ?_) (fun h => ?_))|(refine st_len (d := some 50) (E := strE) (l := idsOf l (evL l t)) rfl (SlE.ext (by exact fx) sg) ?_)|(refine zJ (p := (((idsOf l (evL l t)).length : Nat) : Int) > 100) rfl (fun h => ?_) (fun h => ?_))|(refine zC (d := some 57) rfl (fresh_spec (M := M) (N := N) (l := l) (cs := txCs t iv ov) (t := t) _ (G8.ext (by exact fx)) (fun b hb => Nat.lt_of_lt_of_le (hM8 b hb) (Ext.size (by exact fx))) (R.ext t8 (by exact fx)) hs.ins hl (SlE.ext (by exact fx) sc8) (SlE.ext (by exact fx) sg)) ?_; rintro _ w10 ⟨rfl, x10⟩)|(refine zL rfl (fun h => ?_) (fun h => ?_)))
          all_goals
            rw [hR]
            first
              | (rw [if_pos ‹(l.any fun x => hitE t x && !mayE l x) = true›]
                 exact x_ret rfl ⟨rfl, Ext.trans (x08 ()) (by exact fx)⟩)
              | (rw [if_neg (by rw [‹(l.any fun x => hitE t x && !mayE l x) = false›]; simp)]
                 first
                   | (rw [if_pos (by omega)]
                      exact x_ret rfl ⟨rfl, Ext.trans (x08 ()) (by exact fx)⟩)
                   | (rw [if_neg (by omega)]
                      first
                        | (rw [if_pos ‹freshP l t = true›]
                           exact x_ret rfl ⟨rfl, Ext.trans (x08 ()) (by exact fx)⟩)
                        | (rw [if_neg (by rw [‹freshP l t = false›]; simp)]
                           first
                             | (rw [if_pos (by rw [hnv]; exact of_decide_eq_true (by assumption))]
                                exact x_ret rfl ⟨rfl, Ext.trans (x08 ()) (by exact fx)⟩)
                             | (rw [if_neg (by rw [hnv]; exact of_decide_eq_false (by assumption))]
                                exact x_ret rfl ⟨rfl, Ext.trans (x08 ()) (by exact fx)⟩))))
        | true =>
          rw [if_pos hgn] at hnv
          have hnN : needN l t = needL l t := by unfold needN; rw [if_neg (by simpa using hc), if_neg (by rw [hh]; simp), if_pos hgn]
          have hnE : needE l t = 0 := by unfold needE; rw [if_neg (by simpa using hc), if_neg (by rw [hh]; simp), if_pos hgn]
          refine s_replace_Rules rfl ?_
          unfold k_replace_Rules
          refine ox ?_
          repeat' (first|(refine st_joinV (b := .cons ⟨some 39, _, _⟩ _) (fun (vc : Value) w' => Ext w4 w' ∧ Own strE T.string w4.heap.size w' vc (idsOf l (confL l t))) (fun vc => [(2, .int .i64 fee), (3, .pointer (some ⟨bg, 0, none⟩)), (4, .pointer (some ⟨bt, 0, none⟩)), (9, .int .i64 (needL l t)), (36, vc), (37, .pointer (some ⟨g, 0, none⟩)), (38, .agg (txCs t iv ov).toArray)]) ?_ ?_)|(rintro vc ρ7 w7 ⟨x7, oc⟩; have sc := oc.sl; try dsimp only)|(exact ⟨v6, ⟨rfl, rfl, rfl, rfl, rfl, rfl, rfl, trivial⟩, by exact fx, Own.lower (Own.ext (by exact fx) o6) (Ext.size (by exact fx))⟩)|(refine zF (d := some 32) (v := .bool true) (by show some (Value.bool (goodB fee)) = _; rw [hgf]) ?_)|(first|refine go1 ?_|refine zg (fun _ _=>?_)|refine zi (fun _ _=>?_))|(refine zD (d := some 3) rfl rfl (fun bg wg xg bg' (rg : Row wg ⟨bg, 0, none⟩ [.pointer (some ⟨g, 0, none⟩)]) hbg0=>?_))|(refine zD (d := some 4) rfl rfl (fun bt wt xt bt' (rt : Row wt ⟨bt, 0, none⟩ (txCs t iv ov)) hbt0=>?_))|(refine zC (d := some 17) rfl (size_spec (M := N) (cs := txCs t iv ov) (t := t) _ (R.ext ht0 (by exact fx)) hs) ?_; rintro _ w3 ⟨rfl, x3⟩; rw [e0])|(refine zC (d := some 26) rfl (need_spec (M := M) (N := N) (l := l) (cs := txCs t iv ov) (t := t) _ (hG.ext (by exact fx)) (fun b hb => Nat.lt_of_lt_of_le (hM b hb) (Ext.size (by exact fx))) (R.ext ht0 (by exact fx)) hs hl hf) ?_; rintro _ w4 ⟨rfl, x4⟩; rw [hnN, hnE])|(refine st_both ?_ ?_)|(refine zC (d := some 36) rfl (conflicts_spec (M := M) (N := N) (l := l) (cs := txCs t iv ov) (t := t) _ (hG.ext (by exact fx)) (fun b hb => Nat.lt_of_lt_of_le (hM b hb) (Ext.size (by exact fx))) (R.ext ht0 (by exact fx)) hs.ins hl) ?_; rintro v6 w6 ⟨o6, x6⟩)|(refine zC (d := some 39) rfl (evicted_spec (M := M) (N := N) (l := l) (cs := txCs t iv ov) (t := t) _ (hG.ext (by exact fx)) (fun b hb => Nat.lt_of_lt_of_le (hM b hb) (Ext.size (by exact fx))) (R.ext ht0 (by exact fx)) hs.ins hl) ?_; rintro vg w8 ⟨og, x8⟩; have sg := og.sl)|(refine st_len (d := some 42) (E := strE) (l := idsOf l (confL l t)) rfl (SlE.ext (by exact fx) sc) ?_))
          have sc8 := SlE.ext x8 sc
          have rg8 : Row w8 ⟨bg, 0, none⟩ [.pointer (some ⟨g, 0, none⟩)] := rg.ext (by exact fx)
          have rt8 : Row w8 ⟨bt, 0, none⟩ (txCs t iv ov) := rt.ext (by exact fx)
          have y08 : Ext w w8 := by exact fx
          have G8 := hG.ext y08
          have t8 := R.ext ht0 y08
          have hM8 : ∀ b ∈ M, b < w8.heap.size := fun b hb => Nat.lt_of_lt_of_le (hM b hb) y08.size
          have x08 : Unit → Ext w w8 := fun _ => y08
          clear y08
          have scR : SlR strR [] w8 vc (idsOf l (confL l t)) := SlE.toR (F := strE) (ag := false) sc8 (by simp)
          have tl : ∀ w1, Ext w8 w1 → Tells F.replace_Rules_1 [.pointer (some ⟨bg, 0, none⟩)] strR (fun cs => cs.headD undef) [] w1 (idsOf l (confL l t)) (fun s => !mayE l (getE l s)) := fun w1 x1 x hx w' cs x2 hc => by
            obtain rfl : cs = [Value.string x] := hc
            exact rules1_spec (M := M) x w' (G8.ext (x1.trans x2)) (fun b hb => Nat.lt_of_lt_of_le (hM8 b hb) (x1.trans x2).size) hl (rg8.ext (x1.trans x2))
          clear oc og x8 x7 x4 x3 xt xg rg rt hG ht0 bg' bt' sc
          repeat' (first|(first|refine go1 ?_|refine zg (fun _ _=>?_)|refine zi (fun _ _=>?_))|(refine zL (p := (((idsOf l (confL l t)).length : Nat) : Int) = 0) rfl (fun h => absurd h (by omega)) (fun _ => ?_))|(refine zC (d := some 47) rfl (idxStr_any (l := idsOf l (confL l t)) (M := []) (g := F.replace_Rules_1) (capl := [_]) _ rules1_hb (SlR.ext scR (by exact fx)) (by omega) (tl _ (by exact fx))) ?_; rintro _ w9 ⟨rfl, x9⟩; rw [may_conf hnd])|(refine zM rfl (fun h => ?_) (fun h => ?_))|(refine st_len (d := some 50) (E := strE) (l := idsOf l (evL l t)) rfl (SlE.ext (by exact fx) sg) ?_)|(refine zJ (p := (((idsOf l (evL l t)).length : Nat) : Int) > 100) rfl (fun h => ?_) (fun h => ?_))|(refine zC (d := some 57) rfl (fresh_spec (M := M) (N := N) (l := l) (cs := txCs t iv ov) (t := t) _ (G8.ext (by exact fx)) (fun b hb => Nat.lt_of_lt_of_le (hM8 b hb) (Ext.size (by exact fx))) (R.ext t8 (by exact fx)) hs.ins hl (SlE.ext (by exact fx) sc8) (SlE.ext (by exact fx) sg)) ?_; rintro _ w10 ⟨rfl, x10⟩)|(refine zL rfl (fun h => ?_) (fun h => ?_)))
          all_goals
            rw [hR]
            first
              | (rw [if_pos ‹(l.any fun x => hitE t x && !mayE l x) = true›]
                 exact x_ret rfl ⟨rfl, Ext.trans (x08 ()) (by exact fx)⟩)
              | (rw [if_neg (by rw [‹(l.any fun x => hitE t x && !mayE l x) = false›]; simp)]
                 first
                   | (rw [if_pos (by omega)]
                      exact x_ret rfl ⟨rfl, Ext.trans (x08 ()) (by exact fx)⟩)
                   | (rw [if_neg (by omega)]
                      first
                        | (rw [if_pos ‹freshP l t = true›]
                           exact x_ret rfl ⟨rfl, Ext.trans (x08 ()) (by exact fx)⟩)
                        | (rw [if_neg (by rw [‹freshP l t = false›]; simp)]
                           first
                             | (rw [if_pos (by rw [hnv]; exact of_decide_eq_true (by assumption))]
                                exact x_ret rfl ⟨rfl, Ext.trans (x08 ()) (by exact fx)⟩)
                             | (rw [if_neg (by rw [hnv]; exact of_decide_eq_false (by assumption))]
                                exact x_ret rfl ⟨rfl, Ext.trans (x08 ()) (by exact fx)⟩))))
  · have e0 : sizeV t = .tuple #[.int .i64 0, .int .i64 (checkT t)] := by rw [sizeV, if_neg hc]
    have e : rulesL l t fee = checkT t := by rw [rulesL, if_pos hc]
    rw [e]
    refine s_replace_Rules rfl ?_
    unfold k_replace_Rules
    refine ox ?_
    repeat' (first|(first|refine go1 ?_|refine zg (fun _ _=>?_)|refine zi (fun _ _=>?_))|(refine zD (d := some 3) rfl rfl (fun bg wg xg bg' (rg : Row wg ⟨bg, 0, none⟩ [.pointer (some ⟨g, 0, none⟩)]) hbg0=>?_))|(refine zD (d := some 4) rfl rfl (fun bt wt xt bt' (rt : Row wt ⟨bt, 0, none⟩ (txCs t iv ov)) hbt0=>?_))|(refine zC (d := some 17) rfl (size_spec (M := N) (cs := txCs t iv ov) (t := t) _ (R.ext ht0 (by exact fx)) hs) ?_; rintro _ w3 ⟨rfl, x3⟩; rw [e0])|(refine zN (p := checkT t = 0) rfl (fun _ => ?_) (fun h => absurd h hc)))
    exact x_ret rfl ⟨rfl, by exact fx⟩
end Go.Proofs.YtbnhinpegbcbeaaGreat
end
