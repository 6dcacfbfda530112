/- Contracts: coins of numbers, by the document. Contracts: accepting into no pool; what the document fixes of pools. Contracts: views over no graph, and over no coins. -/
import Derived.Test.YtcnhbkaclgdehaaGreatO42
set_option linter.unusedVariables false
set_option linter.unusedSimpArgs false
section
namespace Go.Proofs.YtcnhbkaclgdehaaGreat
open Go Go.K
attribute [local irreducible] regK codeK retK KOp.wp K.Spec u32 leS vnS str zero32 sha2 encT idT sizeT checkT grantB idN
theorem wrap16 {n : Int} (h : 0 ≤ n ∧ n ≤ 65535) : IntKind.i64.wrap n = n := IntWalk.i64_in _ (by omega)
set_option maxHeartbeats 1000000 in
theorem coins17_spec {v : Value} {vals : List Int} (w : World) (hv : SlR u16R [] w v vals) (hr : ∀ a ∈ vals, 0 ≤ a ∧ a ≤ 65535) :
    K.Spec Tryz.prog F.kedgeref17_Coins [v] w fun r w' => SlE entE w' r (coinsP vals (min vals.length 8)) ∧ (∀ b ∈ blkOf r, w.heap.size ≤ b) ∧ Ext w w' := by
  refine s_kedgeref17_Coins rfl ?_
  unfold k_kedgeref17_Coins
  refine oy ?_
  repeat' (first|(refine zG (d := some 8) (E := u16R) (M := []) rfl (SlR.ext hv (by exact fx)) ?_)|(refine c_loopV (fun (p : Nat × Value) w' => Ext w w' ∧ p.1 ≤ vals.length ∧ p.1 ≤ 8 ∧ SlE entE w' p.2 (coinsP vals p.1) ∧ (∀ b ∈ blkOf p.2, w.heap.size ≤ b)) (fun p => [(0, v), (3, p.2), (4, .int .i64 p.1)]) (fun p => 8 - p.1) (0, .slice none 0 0) ⟨rfl, rfl, rfl, trivial⟩ ⟨Ext.refl _, by simp, by simp, SlE.nil _, by simp [blkOf]⟩ ?_; rintro ⟨i, vo⟩ ρ w1 ⟨x1, hi1, hi2, ho, hb⟩; simp only at hi1 hi2 ho hb; dsimp only; have hok := coinsP_ok hr i; have hol := hok.len)|(have hil : i < vals.length := (by omega); have hri := hr _ (List.getElem_mem hil); refine st_elemR (d := some 18) (E := u16R) (M := []) rfl rfl (n := i) (l := vals) (SlR.ext hv (by exact fx)) rfl hil (fun ad cs r2 he => ?_); obtain ⟨rfl, -⟩ := he)|(refine st_fixV (d := some 20) (.int .i64 vals[i]) rfl (congrArg (fun n => some (Value.int .i64 n)) (wrap16 hri)) ?_)|(refine st_mul (d := some 21) rfl rfl (by omega) ?_)|(refine st_build (d := some 23) (cs := (coinP vals[i]).cs) rfl ?_)|(refine zE (d' := 5) (fun _=>rfl) rfl rfl rfl (fun b5 w5 x5 a5 (r5 : Row w5 ⟨b5, 0, none⟩ (coinP vals[i]).cs) hb5=>?_))|(refine st_fixV (d := some 27) (.int .i64 ((300 + i : Nat) : Int)) rfl (congrArg (fun n => some (Value.int .i64 n)) (IntWalk.i64_in _ (by omega))) ?_)|(refine zC (d := some 28) rfl (idn_spec (300 + i) _) ?_; rintro _ w6 ⟨rfl, x6⟩)|(refine st_build (d := some 29) (cs := (⟨idN (300 + i), 0⟩ : Pt).cs) rfl ?_)|(refine zC (d := some 31) rfl (rput10_spec ⟨idN (300 + i), 0⟩ (coinP vals[i]) _ (SlE.ext (w := w1) (by exact fx) ho) (by omega) (hok.mon (by omega))) ?_; rintro _ w7 ⟨vl, rfl, hl7, hb7, x7⟩; have s17 := Ext.size (show Ext w _ by exact fx))|(first|refine go1 ?_|refine zg (fun _ _=>?_)|refine zi (fun _ _=>?_))|refine zJ rfl (fun h => ?_) (fun h => ?_)|refine zL rfl (fun h => ?_) (fun h => ?_)|refine zB ?_ ?_)
  all_goals first
    | exact ⟨(i + 1, vl), ⟨rfl, rfl, rfl, trivial⟩, ⟨by exact fx, by simp; omega, by simp; omega, by rw [coinsP, List.getD_eq_getElem?_getD, List.getElem?_eq_getElem hil]; exact hl7, fun b h7 => (hb7 b h7).elim (hb b) (fun h8 => Nat.le_trans (Ext.size (show Ext w _ by exact fx)) h8)⟩, by simp; omega⟩
    | (have e : min vals.length 8 = i := by omega
       rw [e]
       exact x_ret rfl ⟨ho, hb, x1⟩)
    | trace_state
end Go.Proofs.YtcnhbkaclgdehaaGreat
end
section
namespace Go.Proofs.YtcnhbkaclgdehaaGreat
open Go Go.K
attribute [local irreducible] regK codeK retK KOp.wp K.Spec u32 leS vnS str zero32 sha2 encT idT sizeT checkT grantB idN stepR workL reachE findI dropG addG aboveL belowL idsOf feeD sizeD cntS metL confL evL inS inB needI needL feeOf needN needE mayE freshP rulesL fitsL feeP dustI numAt byteAt plainP dropAll accE accIds accL askedF makeP coinsP coinsW
theorem slAt' {α : Type} {E : R α} {M : List Nat} {w : World} {b n : Nat} {t : TypeId} {arr : List Value} {l : List α} (css : List (Vec E.k)) (h : At w b (.cells arr.toArray t (0, 0))) (e : (vecE E.k E.pos).flat css = arr) (ha : E.all (b :: M) w css l) (hb : b ∉ M) (hn : css.length = n) : SlR E M w (.slice (some ⟨b, 0, none⟩) n n) l := by
  subst hn
  have o : OwnR E t 0 M w (.slice (some ⟨b, 0, none⟩) css.length css.length) l := ⟨css, .inr ⟨b, css.length, [], rfl, Nat.zero_le _, by rw [e, List.append_nil]; exact h, by rw [List.append_nil, Enc.flat_length]⟩, ha⟩
  exact o.sl fun b' hb' h' => by
    simp [blkOf] at h'
    subst h'; exact hb hb'
theorem errR_num {w : World} {e : Value} {c : Int} (h : ErrR w 1 e c (-1)) (hc : c ≠ 0) : e = errno c := by
  rcases h with ⟨-, ⟨h1, -⟩ | ⟨-, h1⟩⟩ | ⟨-, h1, -⟩
  · exact absurd h1 hc
  · exact h1
  · omega
theorem accept_nil {cs : List Value} {iv ov : Value} {t : Tx} (v : Value) (h rate : Int) (he : cs = txCs t iv ov) (h1 : iv.oneCell' = true) (h2 : ov.oneCell' = true) (hv : v.oneCell' = true) (w : World) : K.Spec Tryz.prog F.pool_Accept [.pointer none, .agg cs.toArray, termV v h rate] w fun r w' => r = .tuple #[.slice none 0 0, errno 1] ∧ Ext w w' := by
  subst he
  refine s_pool_Accept rfl ?_
  unfold k_pool_Accept
  refine oy ?_
  repeat' (first|(refine zD (d := some 4) rfl rfl (fun bt wt xt bt' (rt : Row wt ⟨bt, 0, none⟩ (txCs t iv ov)) hbt0=>?_))|(refine zD (d := some 5) (cs := [v, .int .i64 h, .int .i64 rate]) rfl rfl (fun bs ws xs bs' (rs : Row ws ⟨bs, 0, none⟩ [v, .int .i64 h, .int .i64 rate]) hbs0=>?_))|(refine zC (d := some 21) rfl (plain_nil (cs := txCs t iv ov) (t := t) v h rate rfl h1 h2 hv _) ?_; rintro _ w3 ⟨rfl, x3⟩)|(first|refine go1 ?_|refine zg (fun _ _=>?_)|refine zi (fun _ _=>?_)))
  exact x_ret rfl ⟨rfl, by exact fx⟩
set_option maxHeartbeats 4000000 in
theorem wakes17_spec (w : World) : K.Spec Tryz.prog F.kedgelaw17_wakes [] w fun r w' => r = .bool true ∧ Ext w w' := by
  refine s_kedgelaw17_wakes rfl ?_
  unfold k_kedgelaw17_wakes
  refine oy ?_
  repeat' (first|(refine zI (d := some 10) (cs := [.int .u16 500]) rfl (fun bz wz xz az hbz => ?_))|(first|refine go1 ?_|refine zg (fun _ _=>?_)|refine zi (fun _ _=>?_)))
  refine zC rfl (coins17_spec (vals := [500]) _ (slAt' (E := u16R) (M := []) (l := [500]) [⟨[.int .u16 500], rfl, by intro v hv; simp at hv; subst hv; rfl⟩] az rfl (.cons ⟨rfl, by decide, by decide⟩ .nil) (by simp) rfl) (by intro a ha; simp at ha; subst ha; decide)) ?_
  rintro vV w2 ⟨hv2, hb2, x2⟩
  rw [coinsW_eq] at hv2
  have x02 : Unit → Ext w w2 := fun _ => xz.trans x2
  clear xz x2 az
  repeat' (first|(refine zC (d := some 13) rfl (set17_spec _ hv2 coinsW_ok (by decide)) ?_; rintro _ w3 ⟨b, mb, rfl, hS3, hb3, hmb3, x3⟩)|(refine zE (d' := 2) (fun _=>rfl) rfl rfl rfl (fun bs w4 x4 a4 (r4 : Row w4 ⟨bs, 0, none⟩ [.iface T.P_coins_Set (.pointer (some ⟨b, 0, none⟩)), .int .i64 5, .int .i64 0]) hbs4=>?_))|(first|refine go1 ?_|refine zg (fun _ _=>?_)|refine zi (fun _ _=>?_)))
  refine zC rfl (new_spec _) ?_
  rintro _ w5 ⟨g, M, rfl, G5, x5⟩
  have hV5 : ViewR w5 (.iface T.P_coins_Set (.pointer (some ⟨b, 0, none⟩))) (aget coinsW) := ViewR.of_set (hS3.ext (x4.trans x5)) (fun e he => by rw [(coinsW_ok.each e he).2.2.2.2.1]; decide)
  have hM5 := G5.lt
  have hB5 := G5.base
  have x25 : Unit → Ext w2 w5 := fun _ => x3.trans (x4.trans x5)
  have x35 : Unit → Ext w3 w5 := fun _ => x4.trans x5
  have s34 := x4.size
  have s23 := x3.size
  have l4 := a4.lt
  have l5 : bs < w5.heap.size := Nat.lt_of_lt_of_le l4 x5.size
  have r5 : Row w5 ⟨bs, 0, none⟩ [.iface T.P_coins_Set (.pointer (some ⟨b, 0, none⟩)), .int .i64 5, .int .i64 0] := Row.ext x5 r4
  have hbsM : bs ∉ M := fun h => by have := hB5 bs h; omega
  clear x3 x4 a4 r4
  clear x5
  have e1 := makeP_sm coinsW zW0
  have hmk : ∀ (z : PSm) (w' : World) (M : List Nat) (b : Nat) (t : TypeId), z.spends = [0] → 0 ≤ z.fee ∧ z.fee ≤ 65535 → Ext w2 w' → At w' b (.cells [Value.int .u8 0].toArray t (0, 0)) → b ∉ M → (∀ b ∈ M, b < w'.heap.size) → K.Spec Tryz.prog F.kedgeref17_Make [vV, .agg (psmCs z (.slice (some ⟨b, 0, none⟩) 1 1)).toArray] w' fun r w'' => ∃ cs', r = .agg cs'.toArray ∧ txR.rel M w'' cs' (makeP coinsW z) ∧ Ext w' w'' := fun z w' M b t hz hf x a hb hM =>
    spec_mono (make17_spec (M := M) (B := 5242800) w' (SlE.ext x hv2) ⟨_, rfl, by rw [hz]; exact SlE.toR (F := u8E) (SlE.new (E := u8E) (l := [0]) a rfl (Nat.le_refl _)) (by intro b' hb' hm; simp [blkOf] at hb'; subst hb'; exact hb hm), hf⟩ (by have := coinsW_ok.len; omega) (fun e he => ⟨(coinsW_ok.each e he).2.2.1, by have := (coinsW_ok.each e he).2.2.2.1; omega⟩) (by decide) (fun e he => by rw [(coinsW_ok.each e he).2.1]; exact is32_0) hM) fun r w'' ⟨cs', h1, h2, h3⟩ => ⟨cs', h1, txO.rel h2 hM, h3⟩
  repeat' (first|(refine zg (fun w6 x6 => ?_))|(refine st_joinV (b := .cons ⟨some 24, _, _⟩ _) (fun (p : List Value) w' => Ext w6 w' ∧ txR.rel M w' p (makeP coinsW zW0)) (fun p => [(1, vV), (2, .pointer (some ⟨bs, 0, none⟩)), (3, .pointer (some ⟨g, 0, none⟩)), (18, .pointer (some ⟨g, 0, none⟩)), (22, .agg p.toArray), (23, termV (.iface T.P_coins_Set (.pointer (some ⟨b, 0, none⟩))) 5 0)]) ?_ ?_)|(rintro p ρ7 w7 ⟨x67, t7⟩; try dsimp only)|(refine zB ?_ ?_)|(refine zI (d := some 20) (cs := [.int .u8 0]) rfl (fun bz wz xz az hbz => ?_))|(refine st_build (d := some 21) (cs := psmCs zW0 (.slice (some ⟨bz, 0, none⟩) 1 1)) rfl ?_)|(refine zC (d := some 22) rfl (hmk zW0 _ M bz _ rfl (by decide) ((x25 ()).trans (by exact fx)) (by exact fx) (fun h => by have := hM5 bz h; have := Ext.size (show Ext w5 w6 by exact fx); omega) (fun b hb => Nat.lt_of_lt_of_le (hM5 b hb) (Ext.size (by exact fx)))) ?_; rintro _ w8 ⟨p, rfl, t8, x8⟩)|(exact ⟨p, ⟨rfl, rfl, rfl, rfl, rfl, rfl, trivial⟩, by exact fx, R.ext t8 (by exact fx)⟩)|(first|refine go1 ?_|refine zg (fun _ _=>?_)|refine zi (fun _ _=>?_)))
  have G7 : Gr w7 w4.heap.size g M [] := G5.ext (x6.trans x67)
  refine zC (d := some 24) rfl (accept_spec (M := M) (N := M) (l := []) 5 0 _ G7 (hV5.ext (x6.trans x67)) t7 e1 (Gr.lt G7) (fun _ h => h) (by simp) (by simp)) ?_
  rintro _ w8 ⟨u1, er1, M1, rfl, hu1, he1, G8, c8, hM8, -⟩
  rw [wk0] at he1
  rw [wk0n.2] at G8
  obtain rfl := errR_num he1 (by decide)
  have x57 := x6.trans x67
  have s57 := x57.size
  have x28 : Unit → Ext w2 w8 := fun _ => (Ext.chg ((x25 ()).trans x57) c8).mono (fun b hb => .inr (by have := hB5 b hb; omega))
  have x38 : Unit → Ext w3 w8 := fun _ => (Ext.chg ((x35 ()).trans x57) c8).mono (fun b hb => .inr (by have := hB5 b hb; omega))
  have r8 : Row w8 ⟨bs, 0, none⟩ [.iface T.P_coins_Set (.pointer (some ⟨b, 0, none⟩)), .int .i64 5, .int .i64 0] := Row.chg c8 (Row.ext x57 r5) hbsM
  have hbsM1 : bs ∉ M1 := fun h => by
    rcases hM8 bs h with h5 | h5
    · exact hbsM h5
    · omega
  have hM8' := G8.lt
  have hB8 := G8.base
  have hV8 : ViewR w8 (.iface T.P_coins_Set (.pointer (some ⟨b, 0, none⟩))) (aget coinsW) := ViewR.of_set (hS3.ext (x38 ())) (fun e he => by rw [(coinsW_ok.each e he).2.2.2.2.1]; decide)
  clear x6 x67 t7 G7 r5 x57 c8 hV5 G5 hM5 hB5 x25 x35 he1
  have e2 := makeP_sm coinsW zW1
  repeat' (first|(refine zg (fun w9 x9 => ?_))|(refine st_joinV (b := .cons ⟨some 34, _, _⟩ _) (fun (p : List Value) w' => Ext w9 w' ∧ txR.rel M1 w' p (makeP coinsW zW1)) (fun p => [(1, vV), (2, .pointer (some ⟨bs, 0, none⟩)), (3, .pointer (some ⟨g, 0, none⟩)), (5, errno 11), (28, .pointer (some ⟨g, 0, none⟩)), (32, .agg p.toArray), (33, termV (.iface T.P_coins_Set (.pointer (some ⟨b, 0, none⟩))) 5 0)]) ?_ ?_)|(rintro p ρ9 w10 ⟨x910, t10⟩; try dsimp only)|(refine zB ?_ ?_)|(refine zI (d := some 30) (cs := [.int .u8 0]) rfl (fun bz wz xz az hbz => ?_))|(refine st_build (d := some 31) (cs := psmCs zW1 (.slice (some ⟨bz, 0, none⟩) 1 1)) rfl ?_)|(refine zC (d := some 32) rfl (hmk zW1 _ M1 bz _ rfl (by decide) ((x28 ()).trans (by exact fx)) (by exact fx) (fun h => by have := hM8' bz h; have := Ext.size (show Ext w8 w9 by exact fx); omega) (fun b hb => Nat.lt_of_lt_of_le (hM8' b hb) (Ext.size (by exact fx)))) ?_; rintro _ w8 ⟨p, rfl, t8, x8⟩)|(exact ⟨p, ⟨rfl, rfl, rfl, rfl, rfl, rfl, rfl, trivial⟩, by exact fx, R.ext t8 (by exact fx)⟩)|(first|refine go1 ?_|refine zg (fun _ _=>?_)|refine zi (fun _ _=>?_)))
  have G10 : Gr w10 w4.heap.size g M1 [] := G8.ext (x9.trans x910)
  refine zC (d := some 34) rfl (accept_spec (M := M1) (N := M1) (l := []) 5 0 _ G10 (hV8.ext (x9.trans x910)) t10 e2 (Gr.lt G10) (fun _ h => h) (by simp) (by simp)) ?_
  rintro _ w11 ⟨u2, er2, M2, rfl, hu2, he2, G11, c11, hM11, -⟩
  rw [wk1] at he2
  rw [wk1n.1] at hu2
  rw [wk1n.2] at G11
  obtain ⟨rfl, -⟩ := he2.nil_iff.1 rfl
  have x810 := x9.trans x910
  have s810 := x810.size
  have x211 : Unit → Ext w w11 := fun _ => (Ext.chg (((x02 ()).trans (x28 ())).trans x810) c11).mono (fun b hb => .inr (by have := hB8 b hb; have := (x02 ()).size; omega))
  have r11 : Row w11 ⟨bs, 0, none⟩ [.iface T.P_coins_Set (.pointer (some ⟨b, 0, none⟩)), .int .i64 5, .int .i64 0] := Row.chg c11 (Row.ext x810 r8) hbsM1
  have hM11' := G11.lt
  have hu11 := hu2.sl
  clear x9 x910 t10 G10 r8 x810 c11 hV8 G8 hM8' hB8 x28 x38 he2 hu2 hmk
  repeat' (first|(refine st_build (d := some 38) (cs := txCs ⟨0, [], [], 0⟩ (.slice none 0 0) (.slice none 0 0)) rfl ?_)|(refine zC (d := some 40) rfl (accept_nil (t := ⟨0, [], [], 0⟩) (.iface T.P_coins_Set (.pointer (some ⟨b, 0, none⟩))) 5 0 rfl rfl rfl rfl _) ?_; rintro _ w12 ⟨rfl, x12⟩)|(refine zC (d := some 45) rfl (errIs_same 11 _) ?_; rintro _ w13 ⟨rfl, rfl⟩)|(refine st_len (d := some 52) rfl (SlE.ext (w := w11) (by exact fx) hu11) ?_)|(refine zC (d := some 57) rfl (all_spec (M := M2) (l := [newE (makeP coinsW zW1) 500]) _ (G11.ext (by exact fx)).r (fun b hb => Nat.lt_of_lt_of_le (hM11' b hb) (Ext.size (by exact fx))) (by simp)) ?_; rintro u14 w14 ⟨o14, x14⟩)|(refine zG (d := some 58) (E := entR) (M := []) (l := [newE (makeP coinsW zW1) 500]) rfl ((o14.sub (M' := []) (by simp)).sl (by simp)) ?_)|(refine zC (d := some 63) rfl (all_spec (M := M2) (l := [newE (makeP coinsW zW1) 500]) _ (G11.ext (by exact fx)).r (fun b hb => Nat.lt_of_lt_of_le (hM11' b hb) (Ext.size (by exact fx))) (by simp)) ?_; rintro u15 w15 ⟨o15, x15⟩)|(refine st_elemR (d := some 64) (E := entR) (M := []) rfl rfl (n := 0) (l := [newE (makeP coinsW zW1) 500]) ((o15.sub (M' := []) (by simp)).sl (by simp)) rfl (by simp) (fun ad cs r6 he => ?_); obtain ⟨iv6, ov6, rfl, g16, g26, g36⟩ := he)|(refine zC (d := some 72) rfl (errIs_same 1 _) ?_; rintro _ w16 ⟨rfl, rfl⟩)|(first|refine go1 ?_|refine zg (fun _ _=>?_)|refine zi (fun _ _=>?_)))
  exact x_ret rfl ⟨rfl, (x211 ()).trans (by exact fx)⟩
end Go.Proofs.YtcnhbkaclgdehaaGreat
end
section
namespace Go.Proofs.YtcnhbkaclgdehaaGreat
open Go Go.K
attribute [local irreducible] regK codeK retK KOp.wp K.Spec u32 leS vnS str zero32 sha2 encT idT sizeT checkT grantB
set_option maxHeartbeats 1000000 in
theorem over_nil {w : World} {v : Value} {f : Pt → Option Cn} (h : Int) (hV : ViewR w v f) : ViewR w (overI v (.pointer none) h) f := by
  obtain ⟨⟨t, u, rfl, hv⟩, hz⟩ := hV
  refine ⟨⟨_, _, rfl, fun p hp w1 x1 => ⟨F.pool_over_Get, .agg #[.iface t u, .pointer none, .int .i64 h], by kernel_rfl, by kernel_rfl, by kernel_rfl, ?_⟩⟩, hz⟩
  refine s_pool_over_Get rfl ?_
  unfold k_pool_over_Get
  refine oy ?_
  repeat (first|(refine zD (d := some 2) (cs := [.iface t u, .pointer none, .int .i64 h]) rfl rfl (fun b2 w2 x2 a2 (r2 : Row w2 ⟨b2, 0, none⟩ [.iface t u, .pointer none, .int .i64 h]) hb2=>?_))|(refine zD (d := some 3) (cs := p.cs) rfl rfl (fun b3 w3 x3 a3 (r3 : Row w3 ⟨b3, 0, none⟩ p.cs) hb3=>?_))|(refine zH (d := some 4) (fun b4 w4 x4 a4 hb4 => ?_); have x14 : Unit → Ext w1 w4 := (fun _ => by exact fx); have h14 : w1.heap.size ≤ b4 := Nat.le_trans (Ext.size (show Ext w1 w3 by exact fx)) hb4)|(first|refine go1 ?_|refine zg (fun _ _=>?_)|refine zi (fun _ _=>?_)))
  obtain ⟨fn, rv, _, hm, hb, hS⟩ := hv p hp w4 (x1.trans (x14 ()))
  refine st_invoke (d := some 17) rfl hm hb rfl hS ?_
  rintro _ w6 ⟨c, rfl, hc, x6⟩
  obtain ⟨bb, hbb⟩ : ∃ bb, (f p).isSome = bb := ⟨_, rfl⟩
  rw [hbb]
  cases bb with
  | true =>
    repeat (first|refine go1 ?_|refine zg (fun _ _=>?_)|refine zi (fun _ _=>?_))
    refine zE (d' := 6) (fun _=>rfl) rfl rfl rfl (fun b7 w7 x7 a7 (r7 : Row w7 ⟨b7, 0, none⟩ c.cs) hb7=>?_)
    repeat (first|refine go1 ?_|refine zg (fun _ _=>?_)|refine zi (fun _ _=>?_))
    have a7' : At w7 b4 _ := At.ext x7 (At.ext x6 a4)
    have x17 : Ext w1 w7 := (x14 ()).trans (x6.trans x7)
    refine st_setN (w0 := w1) (vs := c.cs) x17 h14 a7' rfl rfl rfl rfl rfl (fun w9 x9 c9 a9 r9 => ?_)
    repeat (first|refine go1 ?_|refine zg (fun _ _=>?_)|refine zi (fun _ _=>?_))
    exact x_ret (ret2 (rv_cell r9 rfl rfl) rv_tmp) ⟨_, rfl, hc, x9⟩
  | false =>
    have hf : f p = none := by simpa using hbb
    repeat' (first|(refine zC (d := some 26) rfl (out_nil p _) ?_; rintro _ w5 ⟨rfl, x5⟩)|(refine zE (d' := 6) (fun _=>rfl) rfl rfl rfl (fun b7 w7 x7 a7 (r7 : Row w7 ⟨b7, 0, none⟩ c.cs) hb7=>?_))|(refine zE (d' := 8) (fun _=>rfl) rfl rfl rfl (fun b8 w8 x8 a8 r8 hb8=>?_))|(refine st_build (d := some 31) (cs := cZ) rfl ?_)|(first|refine go1 ?_|refine zg (fun _ _=>?_)|refine zi (fun _ _=>?_)))
    refine st_setN (w0 := w1) (vs := cZ) ((x14 ()).trans (x6.trans (x7.trans (x5.trans x8)))) h14 (At.ext x8 (At.ext x5 (At.ext x7 (At.ext x6 a4)))) rfl rfl rfl rfl rfl (fun w9 x9 c9 a9 r9 => ?_)
    repeat (first|refine go1 ?_|refine zg (fun _ _=>?_)|refine zi (fun _ _=>?_))
    exact x_ret (ret2 (rv_cell r9 rfl rfl) rv_tmp) ⟨cn0, rfl, by rw [hf]; rfl, x9⟩
set_option maxHeartbeats 1000000 in
theorem over_only {w : World} {g : Nat} {M : List Nat} {l : List Ent} (h : Int) (hG : GrR w g M l) (hM : ∀ b ∈ M, b < w.heap.size) : ViewR w (overI .nilIface (.pointer (some ⟨g, 0, none⟩)) h) (outAt l h) := by
  have hE := hG.ok
  refine ⟨⟨_, _, rfl, fun p hp w1 x1 => ⟨F.pool_over_Get, .agg #[.nilIface, .pointer (some ⟨g, 0, none⟩), .int .i64 h], by kernel_rfl, by kernel_rfl, by kernel_rfl, ?_⟩⟩, fun p c hc => out_size hE hc⟩
  replace hG := hG.ext x1
  replace hM : ∀ b ∈ M, b < w1.heap.size := fun b hb => Nat.lt_of_lt_of_le (hM b hb) x1.size
  refine s_pool_over_Get rfl ?_
  unfold k_pool_over_Get
  refine oy ?_
  repeat (first|(refine zD (d := some 2) (cs := [.nilIface, .pointer (some ⟨g, 0, none⟩), .int .i64 h]) rfl rfl (fun b2 w2 x2 a2 (r2 : Row w2 ⟨b2, 0, none⟩ [.nilIface, .pointer (some ⟨g, 0, none⟩), .int .i64 h]) hb2=>?_))|(refine zD (d := some 3) (cs := p.cs) rfl rfl (fun b3 w3 x3 a3 (r3 : Row w3 ⟨b3, 0, none⟩ p.cs) hb3=>?_))|(refine zH (d := some 4) (fun b4 w4 x4 a4 hb4 => ?_); have x14 : Unit → Ext w1 w4 := (fun _ => by exact fx); have h14 : w1.heap.size ≤ b4 := Nat.le_trans (Ext.size (show Ext w1 w3 by exact fx)) hb4)|(first|refine go1 ?_|refine zg (fun _ _=>?_)|refine zi (fun _ _=>?_)))
  refine zC (d := some 26) rfl (out_spec (M := M) (l := l) p hp _ (hG.ext (by exact fx)) (fun b hb => Nat.lt_of_lt_of_le (hM b hb) (Ext.size (by exact fx)))) ?_
  rintro _ w5 ⟨o, rfl, ho5, x5⟩
  cases ho : outHas l p with
  | false =>
    have e : outAt l h p = none := by unfold outAt; rw [ho]; rfl
    rw [e]
    repeat' (first|(refine zE (d' := 8) (fun _=>rfl) rfl rfl rfl (fun b8 w8 x8 a8 (r8 : Row w8 ⟨b8, 0, none⟩ (outCs o)) hb8=>?_))|(refine st_build (d := some 31) (cs := cZ) rfl ?_)|(first|refine go1 ?_|refine zg (fun _ _=>?_)|refine zi (fun _ _=>?_)))
    refine st_setN (w0 := w1) (vs := cZ) ((x14 ()).trans (x5.trans x8)) h14 (At.ext x8 (At.ext x5 a4)) rfl rfl rfl rfl rfl (fun w9 x9 c9 a9 r9 => ?_)
    repeat (first|refine go1 ?_|refine zg (fun _ _=>?_)|refine zi (fun _ _=>?_))
    exact x_ret (ret2 (rv_cell r9 rfl rfl) rv_tmp) ⟨cn0, rfl, rfl, x9⟩
  | true =>
    have ho6 := ho5 ho
    have e : outAt l h p = some ⟨o.v, o.s, h⟩ := by
      unfold outAt
      rw [if_pos ho, show (getE l p.s).tx.outs[p.i.toNat]? = some o from ho6]; rfl
    rw [e]
    repeat' (first|(refine zE (d' := 8) (fun _=>rfl) rfl rfl rfl (fun b8 w8 x8 a8 (r8 : Row w8 ⟨b8, 0, none⟩ (outCs o)) hb8=>?_))|(refine st_build (d := some 35) (cs := Cn.cs ⟨o.v, o.s, h⟩) rfl ?_)|(first|refine go1 ?_|refine zg (fun _ _=>?_)|refine zi (fun _ _=>?_)))
    refine st_setN (w0 := w1) (vs := Cn.cs ⟨o.v, o.s, h⟩) ((x14 ()).trans (x5.trans x8)) h14 (At.ext x8 (At.ext x5 a4)) rfl rfl rfl rfl rfl (fun w9 x9 c9 a9 r9 => ?_)
    repeat (first|refine go1 ?_|refine zg (fun _ _=>?_)|refine zi (fun _ _=>?_))
    exact x_ret (ret2 (rv_cell r9 rfl rfl) rv_tmp) ⟨_, rfl, rfl, x9⟩
theorem out_is {l : List Ent} (h : Int) {p : Pt} (hp : 0 ≤ p.i) : (outAt l h p).isSome = outHas l p := by
  unfold outAt
  by_cases ho : outHas l p = true
  · rw [if_pos ho, ho]
    have h1 := (Bool.and_eq_true _ _ ▸ ho : _ ∧ _).2
    have h2 := of_decide_eq_true h1
    rw [List.getElem?_eq_getElem (show p.i.toNat < (getE l p.s).tx.outs.length by omega)]; rfl
  · rw [if_neg ho]
    rw [Bool.not_eq_true] at ho
    rw [ho]; rfl
theorem cn_same (c : Cn) : cellsEq [.i, .s, .i] c.cs c.cs = some true := by simp [cellsEq, cellEq, Cn.cs]
end Go.Proofs.YtcnhbkaclgdehaaGreat
end
