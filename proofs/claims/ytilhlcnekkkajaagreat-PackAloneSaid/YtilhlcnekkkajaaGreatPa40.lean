/- Contracts: coins of numbers, by the document. Contracts: accepting into no pool; what the document fixes of pools. Contracts: whether a graph has just some entries. Contracts: sets of coins, and whether a graph has just some entries (in the laws of pairs). Contracts: a transaction, and one that spends what it pays first. -/
import Derived.Test.YtilhlcnekkkajaaGreatPa37
import Derived.Test.YtilhlcnekkkajaaGreatPa39
set_option linter.unusedVariables false
set_option linter.unusedSimpArgs false
section
namespace Go.Proofs.YtilhlcnekkkajaaGreat
open Go Go.K
attribute [local irreducible] regK codeK retK KOp.wp K.Spec u32 leS vnS str zero32 sha2 encT idT sizeT checkT grantB idN
theorem wrap16 {n : Int} (h : 0 ≤ n ∧ n ≤ 65535) : IntKind.i64.wrap n = n := IntWalk.i64_in _ (by omega)
set_option maxHeartbeats 1000000 in
theorem coins17_spec {v : Value} {vals : List Int} (w : World) (hv : SlR u16R [] w v vals) (hr : ∀ a ∈ vals, 0 ≤ a ∧ a ≤ 65535) :
    K.Spec Tryz.prog F.kedgeref17_Coins [v] w fun r w' => SlE entE w' r (coinsP vals (min vals.length 8)) ∧ (∀ b ∈ blkOf r, w.heap.size ≤ b) ∧ Ext w w' := by
  refine s_kedgeref17_Coins rfl ?_
  unfold k_kedgeref17_Coins
  refine oy ?_
  repeat' (first|(refine zG (d := some 8) (E := u16R) (M := []) rfl (SlR.ext hv (by exact fx)) ?_)|(refine c_loopV (fun (p : Nat × Value) w' => Ext w w' ∧ p.1 ≤ vals.length ∧ p.1 ≤ 8 ∧ SlE entE w' p.2 (coinsP vals p.1) ∧ (∀ b ∈ blkOf p.2, w.heap.size ≤ b)) (fun p => [(0, v), (3, p.2), (4, .int .i64 p.1)]) (fun p => 8 - p.1) (0, .slice none 0 0) ⟨rfl, rfl, rfl, trivial⟩ ⟨Ext.refl _, by simp, by simp, SlE.nil _, by simp [blkOf]⟩ ?_; rintro ⟨i, vo⟩ ρ w1 ⟨x1, hi1, hi2, ho, hb⟩; simp only at hi1 hi2 ho hb; dsimp only; have hok := coinsP_ok hr i; have hol := hok.len)|(have hil : i < vals.length := (by omega); have hri := hr _ (List.getElem_mem hil); refine st_elemR (d := some 18) (E := u16R) (M := []) rfl rfl (n := i) (l := vals) (SlR.ext hv (by exact fx)) rfl hil (fun ad cs r2 he => ?_); obtain ⟨rfl, -⟩ := he)|(refine st_fixV (d := some 20) (.int .i64 vals[i]) rfl (congrArg (fun n => some (Value.int .i64 n)) (wrap16 hri)) ?_)|(refine st_mul (d := some 21) rfl rfl (by omega) ?_)|(refine st_build (d := some 23) (cs := (coinP vals[i]).cs) rfl ?_)|(refine zE (d' := 5) (fun _=>rfl) rfl rfl rfl (fun b5 w5 x5 a5 (r5 : Row w5 ⟨b5, 0, none⟩ (coinP vals[i]).cs) hb5=>?_))|(refine st_fixV (d := some 27) (.int .i64 ((300 + i : Nat) : Int)) rfl (congrArg (fun n => some (Value.int .i64 n)) (IntWalk.i64_in _ (by omega))) ?_)|(refine zC (d := some 28) rfl (idn_spec (300 + i) _) ?_; rintro _ w6 ⟨rfl, x6⟩)|(refine st_build (d := some 29) (cs := (⟨idN (300 + i), 0⟩ : Pt).cs) rfl ?_)|(refine zC (d := some 31) rfl (rput10_spec ⟨idN (300 + i), 0⟩ (coinP vals[i]) _ (SlE.ext (w := w1) (by exact fx) ho) (by omega) (hok.mon (by omega))) ?_; rintro _ w7 ⟨vl, rfl, hl7, hb7, x7⟩; have s17 := Ext.size (show Ext w _ by exact fx))|(first|refine go1 ?_|refine zg (fun _ _=>?_)|refine zi (fun _ _=>?_))|refine zJ rfl (fun h => ?_) (fun h => ?_)|refine zL rfl (fun h => ?_) (fun h => ?_)|refine zB ?_ ?_)
  all_goals first
    | exact ⟨(i + 1, vl), ⟨rfl, rfl, rfl, trivial⟩, ⟨by exact fx, by simp; omega, by simp; omega, by rw [coinsP, List.getD_eq_getElem?_getD, List.getElem?_eq_getElem hil]; exact hl7, fun b h7 => (hb7 b h7).elim (hb b) (fun h8 => Nat.le_trans (Ext.size (show Ext w _ by exact fx)) h8)⟩, by simp; omega⟩
    | (have e : min vals.length 8 = i := by omega
       rw [e]
       exact x_ret rfl ⟨ho, hb, x1⟩)
    | trace_state
end Go.Proofs.YtilhlcnekkkajaaGreat
end
section
namespace Go.Proofs.YtilhlcnekkkajaaGreat
open Go Go.K
attribute [local irreducible] regK codeK retK KOp.wp K.Spec u32 leS vnS str zero32 sha2 encT idT sizeT checkT grantB idN stepR workL reachE findI dropG addG aboveL belowL idsOf feeD sizeD cntS metL confL evL inS inB needI needL feeOf needN needE mayE freshP rulesL fitsL feeP dustI numAt byteAt plainP dropAll accE accIds accL askedF makeP coinsP coinsW
theorem slAt' {α : Type} {E : R α} {M : List Nat} {w : World} {b n : Nat} {t : TypeId} {arr : List Value} {l : List α} (css : List (Vec E.k)) (h : At w b (.cells arr.toArray t (0, 0))) (e : (vecE E.k E.pos).flat css = arr) (ha : E.all (b :: M) w css l) (hb : b ∉ M) (hn : css.length = n) : SlR E M w (.slice (some ⟨b, 0, none⟩) n n) l := by
  subst hn
  have o : OwnR E t 0 M w (.slice (some ⟨b, 0, none⟩) css.length css.length) l := ⟨css, .inr ⟨b, css.length, [], rfl, Nat.zero_le _, by rw [e, List.append_nil]; exact h, by rw [List.append_nil, Enc.flat_length]⟩, ha⟩
  exact o.sl fun b' hb' h' => by
    simp [blkOf] at h'
    subst h'; exact hb hb'
theorem errR_num {w : World} {e : Value} {c : Int} (h : ErrR w 1 e c (-1)) (hc : c ≠ 0) : e = errno c := by
  rcases h with ⟨-, ⟨h1, -⟩ | ⟨-, h1⟩⟩ | ⟨-, h1, -⟩
  · exact absurd h1 hc
  · exact h1
  · omega
end Go.Proofs.YtilhlcnekkkajaaGreat
end
section
namespace Go.Proofs.YtilhlcnekkkajaaGreat
open Go Go.K
attribute [local irreducible] regK codeK retK KOp.wp K.Spec u32 leS vnS str zero32 sha2 encT idT sizeT checkT grantB idN stepR workL reachE findI dropG addG aboveL belowL idsOf
end Go.Proofs.YtilhlcnekkkajaaGreat
end
section
namespace Go.Proofs.YtilhlcnekkkajaaGreat
open Go Go.K
attribute [local irreducible] regK codeK retK KOp.wp K.Spec u32 leS vnS str zero32 sha2 encT idT sizeT checkT grantB idN stepR workL reachE findI dropG addG aboveL belowL idsOf
set_option maxHeartbeats 1000000 in
theorem set18_spec {v : Value} {V : List En} {n : Nat} (w : World) (hv : SlE entE w v V) (hV : CoinsOk V n) (hn : n ≤ 1000) :
    K.Spec Tryz.prog F.kedgelaw18_set [v] w fun r w' => ∃ b mb, r = .pointer (some ⟨b, 0, none⟩) ∧ SetE T.coins_Set w' b mb V ∧ w.heap.size ≤ b ∧ w.heap.size ≤ mb ∧ Ext w w' := by
  have hlen := hV.len
  refine s_kedgelaw18_set rfl ?_
  unfold k_kedgelaw18_set
  refine oy ?_
  repeat' (first|(first|refine go1 ?_|refine zg (fun _ _=>?_)|refine zi (fun _ _=>?_))|(refine zC rfl (cnew_spec _) ?_; rintro _ w1 ⟨b, mb, rfl, hS, hb, hmb, x1⟩)|(refine st_len (d := some 8) rfl (SlE.ext (w := w) (by exact fx) hv) ?_)|(refine c_loopV (fun (i : Nat) w' => Ext w w' ∧ i ≤ V.length ∧ SetE T.coins_Set w' b mb (V.take i)) (fun i => [(3, .pointer (some ⟨b, 0, none⟩)), (7, v), (8, .int .i64 (V.length : Nat)), (9, .int .i64 i)]) (fun i => V.length - i) 0 ⟨rfl, rfl, rfl, rfl, trivial⟩ ⟨x1, by simp, hS⟩ ?_; clear hS x1; rintro i ρ w2 ⟨x2, hi, hS⟩)|(refine zL (p := (((i : Nat) : Int) < ((V.length : Nat) : Int))) rfl (fun h6 => ?_) (fun h6 => ?_))|(have hil : i < V.length := (by omega); refine st_elemE (d := some 11) (E := entE) rfl rfl (n := i) (l := V) (SlE.ext (w := w) (by exact fx) hv) rfl hil (fun ad r2 => ?_))|(refine zE (d' := 5) (fun _=>rfl) rfl rfl rfl (fun b5 w5 x5 a5 (r5 : Row w5 ⟨b5, 0, none⟩ (entE.f V[i])) hb5=>?_))|(refine zC (d := some 18) rfl (cput_spec V[i].1 V[i].2 _ (hS.ext (by exact fx))) ?_; rintro _ w6 ⟨rfl, hS6, c6⟩))
  · rw [(put_next hV hn hil).2] at hS6
    exact ⟨i + 1, ⟨rfl, rfl, rfl, rfl, trivial⟩, ⟨(Ext.chg (x2.trans x5) c6).mono (by intro y hy; simp at hy; right; omega), by omega, hS6⟩, by omega⟩
  · rw [List.take_of_length_le (by omega)] at hS
    exact x_ret rfl ⟨b, mb, rfl, hS, hb, hmb, x2⟩
set_option maxHeartbeats 4000000 in
theorem same18_spec {g : Nat} {M N : List Nat} {l : List Ent} {v : Value} (w : World) (hG : GrR w g M l) (hM : ∀ b ∈ M, b < w.heap.size) (hv : SlR entR N w v l) (hl : l.length ≤ 1000) : K.Spec Tryz.prog F.kedgelaw18_same [.pointer (some ⟨g, 0, none⟩), v] w fun r w' => r = .bool true ∧ Ext w w' := by
  have hE := hG.ok
  refine s_kedgelaw18_same rfl ?_
  unfold k_kedgelaw18_same
  refine oy ?_
  repeat' (first|(refine zC (d := some 9) rfl (all_spec (M := M) (l := l) _ (hG.ext (by exact fx)) (fun b hb => Nat.lt_of_lt_of_le (hM b hb) (Ext.size (by exact fx))) (by omega)) ?_; rintro u1 w1 ⟨o1, x1⟩; have o1 := (o1.sub (M' := []) (by simp)).sl (by simp))|(refine zG (d := some 11) (E := entR) (M := []) (l := l) rfl (o1.ext (by exact fx)) ?_)|(refine zG (d := some 13) (E := entR) (M := N) (l := l) rfl (hv.ext (by exact fx)) ?_)|(refine zG (d := some 16) (E := entR) (M := []) (l := l) rfl (o1.ext (by exact fx)) ?_)|(refine st_fixV (d := some 14) (.bool false) rfl (congrArg (fun b => some (Value.bool (!b))) (decide_eq_true rfl)) ?_)|(refine c_loopV (a := .seq _ (.seq (.cond _ _ _) (.seq (.block 1 _) _))) (fun (i : Nat) w' => Ext w1 w' ∧ i ≤ l.length) (fun i => [(1, v), (15, u1), (16, .int .i64 (l.length : Nat)), (17, .int .i64 i)]) (fun i => l.length - i) 0 ⟨rfl, rfl, rfl, rfl, trivial⟩ ⟨Ext.refl _, by simp⟩ ?_; rintro i ρ w2 ⟨x2, hi⟩)|(refine zL (x := .tmp 18) (p := ((i : Nat) : Int) < ((l.length : Nat) : Int)) rfl (fun h6 => ?_) (fun h6 => ?_))|(first|refine go1 ?_|refine zg (fun _ _=>?_)|refine zi (fun _ _=>?_)))
  · have hil : i < l.length := by omega
    have hsm := chk_sm (hE _ (List.getElem_mem hil)).check
    have o2 := o1.ext x2
    have v2 := hv.ext (x1.trans x2)
    clear o1
    repeat' (first|(refine st_elemR (d := some 20) (E := entR) (M := []) rfl rfl (n := i) (l := l) o2 rfl hil (fun ad cs r3 he => ?_); obtain ⟨iv, ov, rfl, h1, h2, h3⟩ := he; have e1 : iv.oneCell' = true := (by obtain ⟨_, _, rfl⟩ := h1.form; rfl); have e2 : ov.oneCell' = true := (by obtain ⟨_, _, rfl⟩ := h2.form; rfl))|(refine zH (d := some 7) (fun b7 w7 x7 a7 hb7 => ?_))|(refine st_setN (w0 := w2) (n := 7) (vs := entCs l[i] iv ov) x7 hb7 a7 rfl rfl rfl rfl (by show List.all (entCs _ _ _) _ = true; simp [entCs, e1, e2]; exact ⟨rfl, rfl, rfl, rfl, rfl⟩) (fun w8 x8 c8 a8 r8 => ?_); clear x7 c8)|(refine st_elemR (d := some 26) (E := entR) (M := N) rfl rfl (n := i) (l := l) (SlR.ext v2 (by exact fx)) rfl hil (fun ad4 cs4 r4 he => ?_); obtain ⟨iv4, ov4, rfl, h14, h24, h34⟩ := he)|(refine st_fixV (d := some 29) (.bool false) rfl (congrArg (fun b => some (Value.bool (!b))) (decide_eq_true rfl)) ?_)|(refine st_elemR (d := some 35) (E := entR) (M := N) rfl rfl (n := i) (l := l) (SlR.ext v2 (by exact fx)) rfl hil (fun ad5 cs5 r5 he => ?_); obtain ⟨iv5, ov5, rfl, h15, h25, h35⟩ := he)|(refine st_fixV (d := some 38) (.bool false) rfl (congrArg (fun b => some (Value.bool (!b))) (decide_eq_true rfl)) ?_)|(refine st_elemR (d := some 45) (E := entR) (M := N) rfl rfl (n := i) (l := l) (SlR.ext v2 (by exact fx)) rfl hil (fun ad6 cs6 r6 he => ?_); obtain ⟨iv6, ov6, rfl, h16, h26, h36⟩ := he)|(refine st_fixV (d := some 48) (.bool false) rfl (congrArg (fun b => some (Value.bool (!b))) (decide_eq_true rfl)) ?_)|(refine st_elemR (d := some 55) (E := entR) (M := N) rfl rfl (n := i) (l := l) (SlR.ext v2 (by exact fx)) rfl hil (fun ad8 cs8 r8 he => ?_); obtain ⟨iv8, ov8, rfl, h18, h28, h38⟩ := he)|(refine zC (d := some 58) rfl (same_spec (M := []) (N := N) (cs := txCs l[i].tx iv ov) (ds := txCs l[i].tx iv8 ov8) (t := l[i].tx) _ ⟨iv, ov, rfl, h1.ext (by exact fx), h2.ext (by exact fx), h3.1, h3.2.1⟩ ⟨iv8, ov8, rfl, h18.ext (by exact fx), h28.ext (by exact fx), h38.1, h38.2.1⟩ hsm) ?_; rintro _ w9 ⟨rfl, x9⟩)|(first|refine go1 ?_|refine zg (fun _ _=>?_)|refine zi (fun _ _=>?_)))
    exact ⟨i + 1, ⟨rfl, rfl, rfl, rfl, trivial⟩, ⟨by exact fx, by omega⟩, by omega⟩
  · repeat (first|refine go1 ?_|refine zg (fun _ _=>?_)|refine zi (fun _ _=>?_))
    exact x_ret rfl ⟨rfl, x1.trans x2⟩
end Go.Proofs.YtilhlcnekkkajaaGreat
end
section
namespace Go.Proofs.YtilhlcnekkkajaaGreat
open Go Go.K
attribute [local irreducible] regK codeK retK KOp.wp K.Spec u32 leS vnS str zero32 sha2 encT idT sizeT checkT grantB idN stepR workL reachE findI dropG addG aboveL belowL idsOf makeP ownK twoV idS
set_option maxHeartbeats 4000000 in
theorem two_spec {N : List Nat} {v : Value} {cs ds : List Value} {V : List En} {a b : PSm} {B : Int} (w : World) (hv : SlE entE w v V) (ha : psmR.rel N w cs a) (hb : psmR.rel N w ds b) (hn : V.length ≤ 1000000) (hV : ∀ e ∈ V, 0 ≤ e.2.v ∧ e.2.v ≤ B) (hB : 0 ≤ B ∧ B ≤ 100000000000000) (hi : ∀ e ∈ V, is32 e.1.i) (hN : ∀ b ∈ N, b < w.heap.size) :
    K.Spec Tryz.prog F.kedgelaw18_two [v, .agg cs.toArray, .agg ds.toArray] w fun r w' => ∃ ts us, r = .tuple #[.agg ts.toArray, .agg us.toArray] ∧ txR.rel N w' ts (makeP V a) ∧ txR.rel N w' us (makeP (twoV V (makeP V a)) b) ∧ Ext w w' := by
  have ha0 := ha
  have hb0 := hb
  obtain ⟨fv, rfl, hfr, hf1, hf2⟩ := ha
  obtain ⟨fw, rfl, hgr, hg1, hg2⟩ := hb
  have hsm := makeP_sm V a
  obtain ⟨hW1, hW2, hW3⟩ := twoV_ok hB.1 hV hi (z := a) ⟨hf1, hf2⟩
  refine s_kedgelaw18_two rfl ?_
  unfold k_kedgelaw18_two
  refine oy ?_
  repeat' (first|(refine zD (d := some 4) rfl rfl (fun bt wt xt bt' (rt : Row wt ⟨bt, 0, none⟩ (psmCs a fv)) hbt0=>?_))|(refine zD (d := some 5) rfl rfl (fun bu wu xu bu' (ru : Row wu ⟨bu, 0, none⟩ (psmCs b fw)) hbu0=>?_))|(refine zH (d := some 6) (fun b6 w6 x6 a6 hb6 => ?_))|(refine zH (d := some 7) (fun b7 w7 x7 a7 hb7 => ?_))|(first|refine go1 ?_|refine zg (fun _ _=>?_)|refine zi (fun _ _=>?_)))
  have s1 := xt.size
  have s2 := xu.size
  have s6 := x6.size
  have s7 := x7.size
  have l6 := a6.lt
  have l7 := a7.lt
  have h67 : b6 ≠ b7 := by omega
  have rt7 := Row.ext (show Ext wt w7 by exact fx) rt
  have ru7 := Row.ext (show Ext wu w7 by exact fx) ru
  have hX : Ext w w7 := by exact fx
  have hN2 : ∀ b ∈ b6 :: b7 :: N, b < w7.heap.size := fun b hb => by
    rcases List.mem_cons.1 hb with rfl | hb
    · omega
    rcases List.mem_cons.1 hb with rfl | hb
    · omega
    · have := hN b hb; have := hX.size; omega
  have hm2 : ∀ b ∈ b6 :: b7 :: N, b ∈ N ∨ w.heap.size ≤ b := fun b hb => by
    rcases List.mem_cons.1 hb with rfl | hb
    · right; omega
    rcases List.mem_cons.1 hb with rfl | hb
    · right; omega
    · exact .inl hb
  have ha7 := R.step psmR ha0 hX (by simp) hm2
  have hb7' := R.step psmR hb0 hX (by simp) hm2
  have hv7 := SlE.ext hX hv
  have a67 := At.ext x7 a6
  have hw7 := hX.size
  have hX' : Unit → Ext w w7 := fun _ => hX
  clear xt xu x6 x7 bt' bu' rt ru a6 hX hfr hgr ha0 hb0 hv
  generalize hK : b6 :: b7 :: N = N2 at hN2 ha7 hb7' hm2
  repeat' (first|(refine zC (d := some 16) rfl (make17_spec (M := N2) (cs := psmCs a fv) (z := a) _ (SlE.ext (w := w7) (by exact fx) hv7) (R.ext ha7 (by exact fx)) (by omega) hV ⟨hB.1, by omega⟩ hi (fun b hb => Nat.lt_of_lt_of_le (hN2 b hb) (Ext.size (by exact fx)))) ?_; rintro _ w8 ⟨ts, rfl, t8, x8⟩)|(first|refine go1 ?_|refine zg (fun _ _=>?_)|refine zi (fun _ _=>?_)))
  have t8' := t8.rel hN2
  obtain ⟨iv, ov, rfl, p1, p2, p3⟩ := t8'
  have e1 := p1.one
  have e2 := p2.one
  have t8 := t8.rel hN2
  have ho3 := (makeP_outs V a).2
  repeat' (first|(refine zE (d' := 8) (fun _=>rfl) rfl rfl (by simp [txCs, e1, e2]; exact ⟨rfl, rfl⟩) (fun b8 w9 x9 a9 (r9 : Row w9 ⟨b8, 0, none⟩ (txCs (makeP V a) iv ov)) hb8=>?_); have l9 := a9.lt)|(refine zC (d := some 19) rfl (id_spec (M := N2) (cs := txCs (makeP V a) iv ov) (t := makeP V a) _ (R.ext t8 (by exact fx)) hsm) ?_; rintro _ w10 ⟨rfl, x10⟩; rw [idV_eq])|(refine zG (d := some 24) (E := outR) (M := N2) (l := (makeP V a).outs) rfl (p2.ext (by exact fx)) ?_)|(refine c_loopV (fun (p : Nat × Value) w' => Ext w10 w' ∧ p.1 ≤ (makeP V a).outs.length ∧ Own entE T.kedgeref10_Entry w10.heap.size w' p.2 (ownK (makeP V a) p.1)) (fun p => [(0, v), (5, .pointer (some ⟨bu, 0, none⟩)), (6, .pointer (some ⟨b6, 0, none⟩)), (7, .pointer (some ⟨b7, 0, none⟩)), (8, .pointer (some ⟨b8, 0, none⟩)), (9, p.2), (10, .string (idS (makeP V a))), (11, .int .i64 (checkT (makeP V a))), (23, ov), (24, .int .i64 ((makeP V a).outs.length : Nat)), (25, .int .i64 p.1)]) (fun p => (makeP V a).outs.length - p.1) (0, .slice none 0 0) ⟨rfl, rfl, rfl, rfl, rfl, rfl, rfl, rfl, rfl, rfl, rfl, trivial⟩ ⟨Ext.refl _, by simp, by rw [ownK_zero]; exact Own.nil _ _ _⟩ ?_; rintro ⟨k, vk⟩ ρ w11 ⟨x11, hk, hok⟩; simp only at hk hok; dsimp only)|(refine zg (fun w12 x12 => ?_); refine st_joinV (b := .cons ⟨none, _, _⟩ _) (fun (p : List Value) w' => Ext w10 w' ∧ txR.rel N2 w' p (makeP (twoV V (makeP V a)) b)) (fun p => [(6, .pointer (some ⟨b6, 0, none⟩)), (7, .pointer (some ⟨b7, 0, none⟩)), (43, .agg (txCs (makeP V a) iv ov).toArray), (48, .agg p.toArray)]) ?_ ?_)|(refine zL (x := .tmp 26) (p := (((k : Nat) : Int) < (((makeP V a).outs.length : Nat) : Int))) rfl (fun h6 => ?_) (fun h6 => ?_))|(first|refine go1 ?_|refine zg (fun _ _=>?_)|refine zi (fun _ _=>?_)))
  · have hkl : k < (makeP V a).outs.length := by omega
    repeat' (first|(refine st_elemR (d := some 28) (E := outR) (M := N2) rfl rfl (n := k) (l := (makeP V a).outs) (p2.ext (by exact fx)) rfl hkl (fun ad7 cs7 r7 he7 => ?_); obtain ⟨rfl, hv7'⟩ := he7)|(refine zH (d := some 13) (fun b13 w13 x13 a13 hb13 => ?_))|(refine st_setN (w0 := w11) (n := 2) (vs := [.int .i64 (makeP V a).outs[k].v, .string (makeP V a).outs[k].s]) x13 hb13 a13 rfl rfl rfl rfl rfl (fun w14 x14 c14 a14 r14 => ?_); clear x13 c14)|(refine zL (x := .tmp 31) (p := checkT (makeP V a) = 0) rfl (fun h7 => ?_) (fun h7 => ?_))|(refine st_fixV (d := some 35) (.int .u32 ((k : Nat) : Int)) rfl (congrArg (fun n => some (Value.int .u32 n)) (w32k (by omega))) ?_)|(refine st_build (d := some 36) (cs := (⟨idS (makeP V a), ((k : Nat) : Int)⟩ : Pt).cs) rfl ?_)|(refine st_build (d := some 38) (cs := (⟨(makeP V a).outs[k].v, (makeP V a).outs[k].s, 0⟩ : Cn).cs) rfl ?_)|(refine st_build (d := some 39) (cs := entE.f (outE 0 (newE (makeP V a) 0) k)) (by rw [outE_own h7 hkl]; rfl) ?_)|(refine zI (d := some 40) (cs := entE.f (outE 0 (newE (makeP V a) 0) k)) rfl (fun b15 w15 x15 a15 hb15 => ?_))|(have hlo := ownK_len (makeP V a) k; refine st_append (d := some 41) (E := entE) (v := vk) (l2 := [outE 0 (newE (makeP V a) 0) k]) rfl (hok.ext (by exact fx)) (Ext.size (w := w10) (by exact fx)) rfl rfl (sl_new a15 rfl) rfl rfl (by simp only [List.length_cons, List.length_nil]; omega) (fun v16 w16 ho16 c16 => ?_))|(first|refine go1 ?_|refine zg (fun _ _=>?_)|refine zi (fun _ _=>?_)))
    · exact ⟨(k + 1, v16), ⟨rfl, rfl, rfl, rfl, rfl, rfl, rfl, rfl, rfl, rfl, rfl, trivial⟩, ⟨(Ext.chg (w := w10) (by exact fx) c16).mono (fun b hb => .inr (hok.base b (by simpa using hb))), by simp; omega, by rw [ownK_succ h7]; exact ho16⟩, by simp; omega⟩
    · exact ⟨(k + 1, vk), ⟨rfl, rfl, rfl, rfl, rfl, rfl, rfl, rfl, rfl, rfl, rfl, trivial⟩, ⟨by exact fx, by simp; omega, by rw [ownK_not h7]; rw [ownK_not h7] at hok; exact hok.ext (by exact fx)⟩, by simp; omega⟩
  · have hk : k = (makeP V a).outs.length := by omega
    subst hk
    have t10 : txR.rel N2 w10 (txCs (makeP V a) iv ov) (makeP V a) := R.ext t8 (x9.trans x10)
    have r10 : Row w10 ⟨b8, 0, none⟩ (txCs (makeP V a) iv ov) := Row.ext x10 r9
    have x710 : Ext w7 w10 := x8.trans (x9.trans x10)
    have v10 := SlE.ext x710 hv7
    have z10 := R.ext hb7' x710
    have ru10 := Row.ext x710 ru7
    have hN10 : ∀ b ∈ N2, b < w10.heap.size := fun b hb => Nat.lt_of_lt_of_le (hN2 b hb) x710.size
    have s10 : w10.heap.size ≤ w11.heap.size := x11.size
    have l10 : b8 < w10.heap.size := Nat.lt_of_lt_of_le l9 x10.size
    have hlo := ownK_len (makeP V a) (makeP V a).outs.length
    have x112 : Ext w10 w12 := x11.trans x12
    have o12 := hok.ext x12
    have a610 := At.ext x710 a67
    have a710 := At.ext x710 a7
    have hw10 : Unit → Ext w w10 := fun _ => (hX' ()).trans x710
    have s710 := x710.size
    clear x710 x12 x11 x10 x9 x8 hv7 hb7' ru7 t8 r9 hok a67 a7 a9 ha7 rt7
    repeat' (first|(refine zB ?_ ?_)|(refine st_append (d := some 46) (E := entE) (v := vk) (l2 := V) rfl (o12.ext (by exact fx)) (Ext.size (w := w10) (by exact fx)) rfl rfl (SlE.cells (SlE.ext (w := w10) (by exact fx) v10)) rfl rfl (by omega) (fun v16 w16 ho16 c16 => ?_); have x16 : Ext w10 w16 := (Ext.chg x112 c16).mono (fun b hb => .inr (o12.base b (by simpa using hb))); clear c16; rw [← twoV_eq] at ho16; replace ho16 := ho16.sl)|(refine zC (d := some 48) rfl (make17_spec (M := N2) (cs := psmCs b fw) (z := b) _ (SlE.ext (w := w16) (by exact fx) ho16) (R.ext z10 (by exact fx)) (by omega) hW1 ⟨by omega, by omega⟩ hW2 (fun b hb => Nat.lt_of_lt_of_le (hN10 b hb) (Ext.size (by exact fx)))) ?_; rintro _ w17 ⟨p, rfl, t17, x17⟩; have t17 := t17.rel (fun b hb => Nat.lt_of_lt_of_le (hN10 b hb) (Ext.size (by exact fx))))|(exact ⟨p, ⟨rfl, rfl, rfl, rfl, trivial⟩, by exact fx, R.ext t17 (by exact fx)⟩)|(first|refine go1 ?_|refine zg (fun _ _=>?_)|refine zi (fun _ _=>?_)))
    all_goals (trace_state; sorry)
  · have hk : k = (makeP V a).outs.length := by omega
    subst hk
    have t10 : txR.rel N2 w10 (txCs (makeP V a) iv ov) (makeP V a) := R.ext t8 (x9.trans x10)
    have r10 : Row w10 ⟨b8, 0, none⟩ (txCs (makeP V a) iv ov) := Row.ext x10 r9
    have x710 : Ext w7 w10 := x8.trans (x9.trans x10)
    have v10 := SlE.ext x710 hv7
    have z10 := R.ext hb7' x710
    have ru10 := Row.ext x710 ru7
    have hN10 : ∀ b ∈ N2, b < w10.heap.size := fun b hb => Nat.lt_of_lt_of_le (hN2 b hb) x710.size
    have s10 : w10.heap.size ≤ w11.heap.size := x11.size
    have l10 : b8 < w10.heap.size := Nat.lt_of_lt_of_le l9 x10.size
    have hlo := ownK_len (makeP V a) (makeP V a).outs.length
    have x112 : Ext w10 w12 := x11.trans x12
    have o12 := hok.ext x12
    have a610 := At.ext x710 a67
    have a710 := At.ext x710 a7
    have hw10 : Unit → Ext w w10 := fun _ => (hX' ()).trans x710
    have s710 := x710.size
    clear x710 x12 x11 x10 x9 x8 hv7 hb7' ru7 t8 r9 hok a67 a7 a9 ha7 rt7
    rintro p ρ w13 ⟨x13, t13⟩
    obtain ⟨iv2, ov2, rfl, q1, q2, q3⟩ := id t13
    have i1 := q1.one
    have i2 := q2.one
    have x013 := (hw10 ()).trans x13
    have a613 := At.ext x13 a610
    have a713 := At.ext x13 a710
    have t10' := R.ext t10 x13
    have l6 := a613.lt
    have l7 := a713.lt
    refine st_setN (w0 := w) (n := 4) (vs := txCs (makeP V a) iv ov) x013 (by omega) a613 rfl rfl rfl rfl (by simp [txCs, e1, e2]; exact ⟨rfl, rfl⟩) (fun w14 x14 c14 a14 r14 => ?_)
    refine st_setN (w0 := w) (n := 4) (vs := txCs (makeP (twoV V (makeP V a)) b) iv2 ov2) x14 (by omega) (At.chg c14 a713 (by simpa using Ne.symm h67)) rfl rfl rfl rfl (by simp [txCs, i1, i2]; exact ⟨rfl, rfl⟩) (fun w15 x15 c15 a15 r15 => ?_)
    have n6 : b6 ∈ N2 := by rw [← hK]; simp
    have n7 : b7 ∈ N2 := by rw [← hK]; simp
    have hNN : ∀ b ∈ N, b ∈ N2 := fun b hb => by rw [← hK]; simp [hb]
    have h1 := R.step txR (R.step txR t10' c14 (L := [b6]) (M' := N2) (fun b hb => .inl (by simp at hb; subst hb; exact n6)) (fun b hb => .inl hb)) c15 (M' := N) (fun b hb => .inl (by simp at hb; subst hb; exact n7)) (fun b hb => .inl (hNN b hb))
    have h2 := R.step txR (R.step txR t13 c14 (M' := N2) (fun b hb => .inl (by simp at hb; subst hb; exact n6)) (fun b hb => .inl hb)) c15 (M' := N) (fun b hb => .inl (by simp at hb; subst hb; exact n7)) (fun b hb => .inl (hNN b hb))
    repeat (first|refine go1 ?_|refine zg (fun _ _=>?_)|refine zi (fun _ _=>?_))
    exact x_ret (ret2 (rv_cell (Row.chg c15 r14 (by simpa using h67)) rfl rfl) (rv_cell r15 rfl rfl)) ⟨_, _, rfl, h1, h2, x15⟩
end Go.Proofs.YtilhlcnekkkajaaGreat
end
