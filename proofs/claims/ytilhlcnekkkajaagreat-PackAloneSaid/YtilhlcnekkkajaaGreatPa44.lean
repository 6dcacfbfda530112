/- The walk of PackAlone. -/
import Derived.Test.YtilhlcnekkkajaaGreatPa42
import Derived.Test.YtilhlcnekkkajaaGreatPa43
set_option linter.unusedVariables false
set_option linter.unusedSimpArgs false
section
namespace Go.Proofs.YtilhlcnekkkajaaGreat
open Go Go.K
attribute [local irreducible] regK codeK retK KOp.wp K.Spec u32 leS vnS str zero32 sha2 encT idT sizeT checkT grantB idN stepR workL reachE findI dropG addG aboveL belowL idsOf feeD sizeD cntS metL confL evL inS inB needI needL feeOf needN needE mayE freshP rulesL fitsL feeP dustI numAt byteAt plainP dropAll accE accIds accL askedF makeP coinsP coinsW overL monB outAt overV refFind aloneP pairE pairIds pairL idS withL twoV ownK
abbrev termC8 (b : Nat) (h rate : Int) : List Value := [.iface T.P_coins_Set (.pointer (some ⟨b, 0, none⟩)), .int .i64 h, .int .i64 rate]
def G8 (vV : Value) (g bp : Nat) (la : PAct) (fa fb : Value) (V : List En) (l : List Ent) (M : List Nat) (A Bt : Tx) (B6 : Nat) : Nat → Value → World → Prop
  | 0, v, _ => v = vV
  | 1, v, _ => v = .pointer (some ⟨g, 0, none⟩)
  | 2, v, w => SlR entR [] w v l
  | 3, v, w => SlE entE w v (overL V l 9)
  | 4, v, _ => v = .pointer (some ⟨bp, 1, none⟩)
  | 5, v, _ => v = .agg (psmCs la.a fa).toArray
  | 6, v, _ => v = .pointer (some ⟨bp, 8, none⟩)
  | 7, v, _ => v = .agg (psmCs la.b fb).toArray
  | 8, v, w => ∃ ts us : List Value, v = .tuple #[.agg ts.toArray, .agg us.toArray] ∧ txR.rel M w ts A ∧ txR.rel M w us Bt
  | 9, v, w => ∃ ts us : List Value, v = .tuple #[.agg ts.toArray, .agg us.toArray] ∧ txR.rel M w ts A ∧ txR.rel M w us Bt
  | 10, v, w => ∃ ts : List Value, v = .agg ts.toArray ∧ txR.rel M w ts A
  | 11, v, w => ∃ us : List Value, v = .agg us.toArray ∧ txR.rel M w us Bt
  | 12, v, w => ∃ b, v = .pointer (some ⟨b, 0, none⟩) ∧ B6 ≤ b ∧ b < w.heap.size ∧ At w b (.cells zTx.toArray T.api_Tx (0, 0))
  | 13, v, w => ∃ b, v = .pointer (some ⟨b, 0, none⟩) ∧ B6 ≤ b ∧ b < w.heap.size ∧ At w b (.cells zTx.toArray T.api_Tx (0, 0))
  | _ + 14, _, _ => True
def preA : List (KI × List Nat) := [(⟨some 52, .move (.tmp 7), none⟩, []), (⟨some 53, .move (.tmp 8), none⟩, []), (⟨some 54, .call F.graph_Graph_All [.tmp 53], none⟩, [1]), (⟨some 55, .call F.kedgeref17_Over [.tmp 52, .tmp 54, .const (.int .i64 9)], none⟩, [0, 2, 2]), (⟨some 56, .fieldAddr 1 (.tmp 5), none⟩, []), (⟨some 57, .loadN 7 (.tmp 56), none⟩, [4]), (⟨some 58, .fieldAddr 8 (.tmp 5), none⟩, []), (⟨some 59, .loadN 7 (.tmp 58), none⟩, [6]), (⟨some 60, .call F.kedgelaw18_two [.tmp 55, .tmp 57, .tmp 59], none⟩, [3, 5, 7, 3]), (⟨some 51, .move (.tmp 60), none⟩, [8]), (⟨some 61, .extract 0 (.tmp 51), none⟩, [9]), (⟨some 62, .extract 1 (.tmp 51), none⟩, [9]), (⟨some 12, .alloc T.api_Tx zTx, none⟩, []), (⟨some 13, .alloc T.api_Tx zTx, none⟩, [])]
def H8 (i : Nat) (v : Value) (w : World) : Prop := i = 12 ∨ i = 13 → ∃ b, v = .pointer (some ⟨b, 0, none⟩) ∧ w.heap.size ≤ b
def J8 (i j : Nat) (v v' : Value) : Prop := i = 12 ∧ j = 13 ∨ i = 13 ∧ j = 12 → v ≠ v'
theorem G8_ext {vV : Value} {g bp : Nat} {la : PAct} {fa fb : Value} {V : List En} {l : List Ent} {M : List Nat} {A Bt : Tx} {B6 : Nat} {w w' : World} (x : Ext w w') : ∀ {i : Nat} {v : Value}, G8 vV g bp la fa fb V l M A Bt B6 i v w → G8 vV g bp la fa fb V l M A Bt B6 i v w'
  | 0, _, h => h
  | 1, _, h => h
  | 2, _, h => SlR.ext h x
  | 3, _, h => SlE.ext x h
  | 4, _, h => h
  | 5, _, h => h
  | 6, _, h => h
  | 7, _, h => h
  | 8, _, ⟨ts, us, e, h1, h2⟩ => ⟨ts, us, e, R.ext h1 x, R.ext h2 x⟩
  | 9, _, ⟨ts, us, e, h1, h2⟩ => ⟨ts, us, e, R.ext h1 x, R.ext h2 x⟩
  | 10, _, ⟨ts, e, h1⟩ => ⟨ts, e, R.ext h1 x⟩
  | 11, _, ⟨ts, e, h1⟩ => ⟨ts, e, R.ext h1 x⟩
  | 12, _, ⟨b, e, h1, h2, h3⟩ => ⟨b, e, h1, Nat.lt_of_lt_of_le h2 x.size, At.ext x h3⟩
  | 13, _, ⟨b, e, h1, h2, h3⟩ => ⟨b, e, h1, Nat.lt_of_lt_of_le h2 x.size, At.ext x h3⟩
  | _ + 14, _, _ => trivial
theorem H8_new {vV : Value} {g bp : Nat} {la : PAct} {fa fb : Value} {V : List En} {l : List Ent} {M : List Nat} {A Bt : Tx} {B6 : Nat} {w : World} {i j : Nat} {v v' : Value} (_hij : i ≠ j) (h1 : H8 i v w) (h2 : G8 vV g bp la fa fb V l M A Bt B6 j v' w) : J8 i j v v' ∧ J8 j i v' v := by
  have key : (i = 12 ∧ j = 13 ∨ i = 13 ∧ j = 12) → v ≠ v' := by
    intro h e
    obtain ⟨b, rfl, hb⟩ := h1 (by omega)
    rcases h with ⟨rfl, rfl⟩ | ⟨rfl, rfl⟩
    · obtain ⟨b', e', -, hlt, -⟩ := h2
      rw [e'] at e
      simp only [Value.pointer.injEq, Option.some.injEq, Addr.mk.injEq, and_true] at e
      omega
    · obtain ⟨b', e', -, hlt, -⟩ := h2
      rw [e'] at e
      simp only [Value.pointer.injEq, Option.some.injEq, Addr.mk.injEq, and_true] at e
      omega
  exact ⟨key, fun h e => key (by omega) e.symm⟩
set_option maxHeartbeats 4000000 in
theorem alone_law {v u : Value} {vals : List Int} {sc : List PAct} {la : PAct} {lcs : List Value} (w : World) (hvals : SlR u16R [] w v vals) (hr : ∀ a ∈ vals, 0 ≤ a ∧ a ≤ 65535) (hsc : SlR pactR [] w u sc) (hla : pactR.rel [] w lcs la) :
    K.Spec Tryz.prog F.kedgelaw18_PackAlone [v, u, .agg lcs.toArray] w fun r w' => r = .bool true ∧ Ext w w' := by
  have hla0 := hla
  obtain ⟨fa, fb, rfl, hfa, hfb⟩ := hla
  refine s_kedgelaw18_PackAlone rfl ?_
  unfold k_kedgelaw18_PackAlone
  refine oy ?_
  repeat' (first|(refine zD (d := some 5) (cs := pactCs la fa fb) rfl rfl (fun bp w1 x1 a1 (r1 : Row w1 ⟨bp, 0, none⟩ (pactCs la fa fb)) hbp=>?_))|(refine zC (d := some 24) rfl (coins17_spec _ (SlR.ext hvals (by exact fx)) hr) ?_; rintro vV w2 ⟨hv2, hb2, x2⟩)|(first|refine go1 ?_|refine zg (fun _ _=>?_)|refine zi (fun _ _=>?_)))
  have hc8 : CoinsOk (coinsP vals (min vals.length 8)) 8 := (coinsP_ok hr _).more (by omega)
  generalize coinsP vals (min vals.length 8) = V at hv2 hc8
  refine zC rfl (new_spec _) ?_
  rintro _ w3 ⟨g, M0, rfl, G3, x3⟩
  repeat' (first|(refine zC (d := some 27) rfl (set18_spec _ (SlE.ext (w := w2) (by exact fx) hv2) hc8 (by decide)) ?_; rintro _ w4 ⟨b, mb, rfl, hS4, hb4, hmb4, x4⟩)|(refine zE (d' := 9) (fun _=>rfl) rfl rfl rfl (fun bs w5 x5 a5 (r5 : Row w5 ⟨bs, 0, none⟩ (termC8 b 9 0)) hbs5=>?_))|(refine zG (d := some 32) (E := pactR) (M := []) (l := sc) rfl (SlR.ext hsc (by exact fx)) ?_)|(refine st_min (d := some 33) rfl rfl ?_)|(refine st_takeR (d := some 34) (E := pactR) (n := min sc.length 6) rfl rfl (by omega) hsc (by omega) rfl (fun v' hv' => ?_))|(refine zG (d := some 35) (E := pactR) (M := []) (l := sc.take (min sc.length 6)) rfl (SlR.ext hv' (by exact fx)) ?_)|(first|refine go1 ?_|refine zg (fun _ _=>?_)|refine zi (fun _ _=>?_)))
  have hSl : (sc.take (min sc.length 6)).length ≤ 6 := by rw [List.length_take]; omega
  generalize sc.take (min sc.length 6) = S at *
  have hB3 := G3.base
  have hM03 := G3.lt
  have l5 := a5.lt
  have s23 := x3.size
  have s34 := x4.size
  have s45 := x5.size
  have s02 : w.heap.size ≤ w2.heap.size := Ext.size (show Ext w w2 by exact fx)
  have x25 : Unit → Ext w2 w5 := fun _ => x3.trans (x4.trans x5)
  have x05 : Unit → Ext w w5 := fun _ => by exact fx
  have n1 : b ∉ M0 := fun h => by have := hM03 b h; omega
  have n2 : mb ∉ M0 := fun h => by have := hM03 mb h; omega
  have n3 : bs ∉ M0 := fun h => by have := hM03 bs h; omega
  have G5 := G3.ext (x4.trans x5)
  have hS5 := hS4.ext x5
  have a12 := a1.ext x2
  have l1 := a12.lt
  have rp2 : Row w2 ⟨bp, 0, none⟩ (pactCs la fa fb) := Row.ext x2 r1
  have hbpB : bp < w2.heap.size := l1
  clear x2 x3 x4 x5 a5 G3 hM03 hS4 hvals a1 r1 a12 x1
  repeat' (first|(refine c_loopV (a := .seq _ (.seq (.cond _ _ _) (.seq (.block 1 _) _))) (fun (p : Nat × List Ent × List Nat) w' => Ext w2 w' ∧ Ext w w' ∧ p.1 ≤ S.length ∧ p.2.1.length ≤ p.1 ∧ Gr w' w2.heap.size g p.2.2 p.2.1 ∧ Row w' ⟨bs, 0, none⟩ (termC8 b 9 0) ∧ bs ∉ p.2.2 ∧ bs < w'.heap.size ∧ SetE T.coins_Set w' b mb V ∧ b ∉ p.2.2 ∧ mb ∉ p.2.2 ∧ Money V p.2.1 9 (monB p.1)) (fun p => [(5, .pointer (some ⟨bp, 0, none⟩)), (7, vV), (8, .pointer (some ⟨g, 0, none⟩)), (9, .pointer (some ⟨bs, 0, none⟩)), (34, v'), (35, .int .i64 (S.length : Nat)), (36, .int .i64 p.1)]) (fun p => S.length - p.1) (0, [], M0) ⟨rfl, rfl, rfl, rfl, rfl, rfl, rfl, trivial⟩ ⟨x25 (), x05 (), by simp, by simp, G5, r5, n3, l5, hS5, n1, n2, money0 hc8 9⟩ ?_; rintro ⟨i, l, M⟩ ρ w6 ⟨x26, x06, hi, hli, G6, r6, hbsM, lbs, hS6, hbM, hmbM, hMon⟩; simp only at hi hli G6 hbsM hbM hmbM hMon; dsimp only)|(refine zL (x := .tmp 37) (p := ((i : Nat) : Int) < ((S.length : Nat) : Int)) rfl (fun h5 => ?_) (fun h5 => ?_))|(first|refine go1 ?_|refine zg (fun _ _=>?_)|refine zi (fun _ _=>?_)))
  · clear G5 r5 hS5
    have hil : i < S.length := by omega
    have hlen : l.length ≤ 1000 := by omega
    have hE6 := G6.ok
    have hnd6 := G6.nodup
    have hM6 := G6.lt
    have hB6 := G6.base
    obtain ⟨hV1, hV2, hV3⟩ := view_ok hc8 (by decide) hE6 hlen hMon
    have hmb := monB_le (i := i) (by omega)
    refine st_elemR (d := some 38) (E := pactR) (M := M) rfl rfl (n := i) (l := S) (SlR.step hv' x06 (by simp) (fun b hb => .inr (by have := hB6 b hb; omega))) rfl hil (fun ad cs r7 he => ?_)
    obtain ⟨fv, fv2, rfl, he1, he2⟩ := he
    generalize S[i] = Z at *
    have one1 := psmR.one he1
    have one2 := psmR.one he2
    obtain ⟨z, hz⟩ : ∃ z, z = Z.a := ⟨_, rfl⟩
    obtain ⟨t, ht⟩ : ∃ t, t = makeP (overL V l 9) Z.a := ⟨_, rfl⟩
    have hsmt : t.Sm := by rw [ht]; exact makeP_sm _ _
    have x26' : Unit → Ext w2 w6 := fun _ => x26
    have x06' : Unit → Ext w w6 := fun _ => x06
    clear x26 x06
    repeat' (first|(refine zE (d' := 11) (fun _=>rfl) rfl rfl (List.all_eq_true.2 (pactR.one ⟨fv, fv2, rfl, he1, he2⟩)) (fun b12 w7 x7 a12 (r12 : Row w7 ⟨b12, 0, none⟩ (pactCs Z fv fv2)) hb12=>?_))|(refine zg (fun w9 x9 => ?_))|(refine zi (fun w9 x9 => ?_))|(refine st_joinV (b := .cons ⟨some 49, _, _⟩ _) (fun (p : List Value) w' => Ext w6 w' ∧ txR.rel M w' p t) (fun p => [(5, .pointer (some ⟨bp, 0, none⟩)), (7, vV), (8, .pointer (some ⟨g, 0, none⟩)), (9, .pointer (some ⟨bs, 0, none⟩)), (34, v'), (35, .int .i64 (S.length : Nat)), (36, .int .i64 i), (40, .pointer (some ⟨g, 0, none⟩)), (47, .agg p.toArray), (48, .agg (termC8 b 9 0).toArray)]) ?_ ?_)|(rintro p ρ9 w10 ⟨x610, t10⟩; try dsimp only)|(refine zB ?_ ?_)|(refine zC (d := some 43) rfl (all_spec (M := M) (l := l) _ (G6.ext (by exact fx)).r (fun b hb => Nat.lt_of_lt_of_le (hM6 b hb) (Ext.size (by exact fx))) (by omega)) ?_; rintro u55 w55 ⟨o55, x55⟩; have o55 := (o55.sub (M' := []) (by simp)).sl (by simp))|(refine zC (d := some 44) rfl (over17_spec (M := []) (V := V) (l := l) 9 _ (SlE.ext (w := w2) ((x26' ()).trans (by exact fx)) hv2) (o55.ext (by exact fx)) (by have := hc8.len; omega) hlen (fun x hx => ent_outs (hE6 x hx))) ?_; rintro v56 w56 ⟨o56, x56⟩; have o56 := o56.sl)|(refine zC (d := some 47) rfl (make17_spec (M := M) (V := overL V l 9) (z := Z.a) (B := monB i) _ (SlE.ext (w := w56) (by exact fx) o56) (R.ext he1 (show Ext w6 _ by exact fx)) hV3 hV1 ⟨hmb.1, by have := hmb.2; omega⟩ hV2 (fun x hx => Nat.lt_of_lt_of_le (hM6 x hx) (Ext.size (by exact fx)))) ?_; rintro _ w58 ⟨p, rfl, tB, x58⟩; have tB := txO.rel tB (fun x hx => Nat.lt_of_lt_of_le (hM6 x hx) (Ext.size (by exact fx))); rw [← ht] at tB)|(exact ⟨p, ⟨rfl, rfl, rfl, rfl, rfl, rfl, rfl, rfl, rfl, rfl, trivial⟩, by exact fx, R.ext tB (by exact fx)⟩)|(first|refine go1 ?_|refine zg (fun _ _=>?_)|refine zi (fun _ _=>?_)))
    have G10 := G6.ext x610
    have hS10 := hS6.ext x610
    have hll : (accL (aget V) l t 9 0).length ≤ l.length + 1 := acc_le hnd6
    refine zC (d := some 49) rfl (accept_spec (M := M) (N := M) (l := l) (f := aget V) (t := t) 9 0 _ G10 (ViewR.of_set hS10 (fun e he => by rw [(hc8.each e he).2.2.2.2.1]; decide)) t10 hsmt (fun b hb => Nat.lt_of_lt_of_le (hM6 b hb) x610.size) (fun _ h => h) hlen (fun x hx => by have := hMon.fee x hx; omega)) ?_
    rintro _ w14 ⟨u14, er, M1, rfl, -, -, G14, c14, hM14, -⟩
    have s610 := x610.size
    have s1014 := c14.size
    have hMon14 : Money V (accL (aget V) l t 9 0) 9 (monB (i + 1)) := hMon.step hc8 hnd6 hE6 hlen ht
    have x214 : Ext w2 w14 := (Ext.chg ((x26' ()).trans x610) c14).mono (fun b hb => .inr (hB6 b hb))
    have x014 : Ext w w14 := (Ext.chg ((x06' ()).trans x610) c14).mono (fun b hb => .inr (by have := hB6 b hb; omega))
    have lb := hS10.at_.lt
    have lmb := hS10.2.1.lt
    have new : ∀ y, y < w10.heap.size → y ∉ M → y ∉ M1 := fun y h1 h2 h3 => by
      rcases hM14 y h3 with h | h
      · exact h2 h
      · omega
    have rs14 : Row w14 ⟨bs, 0, none⟩ (termC8 b 9 0) := Row.chg c14 (Row.ext x610 r6) hbsM
    have hS14 := hS10.chg c14 hbM hmbM
    repeat' (first|refine go1 ?_|refine zg (fun _ _=>?_)|refine zi (fun _ _=>?_))
    exact ⟨(i + 1, accL (aget V) l t 9 0, M1), ⟨rfl, rfl, rfl, rfl, rfl, rfl, rfl, trivial⟩, ⟨x214, x014, by simp; omega, by simp; omega, G14, rs14, new _ (by omega) hbsM, by omega, hS14, new _ lb hbM, new _ lmb hmbM, hMon14⟩, by simp; omega⟩
  · clear G5 r5 hS5
    have hlen : l.length ≤ 6 := by omega
    have hE6 := G6.ok
    have hnd6 := G6.nodup
    have hM6 := G6.lt
    have hB6 := G6.base
    obtain ⟨hV1, hV2, -⟩ := view_ok hc8 (by decide) hE6 (by omega) hMon
    have hmb := monB_le (i := i) (by omega)
    have hvl := overL_short (V := V) hc8.len (by omega) hE6 9
    have rp6 : Row w6 ⟨bp, 0, none⟩ (pactCs la fa fb) := Row.ext x26 rp2
    have hv6 := SlE.ext x26 hv2
    have hA6 : psmR.rel M w6 (psmCs la.a fa) la.a := psmR.step hfa x06 (by simp) (fun b hb => .inr (by have := hB6 b hb; omega))
    have hB6' : psmR.rel M w6 (psmCs la.b fb) la.b := psmR.step hfb x06 (by simp) (fun b hb => .inr (by have := hB6 b hb; omega))
    have s26 := x26.size
    have lbp6 : bp < w6.heap.size := by omega
    obtain ⟨A, hA⟩ : ∃ A, A = makeP (overL V l 9) la.a := ⟨_, rfl⟩
    obtain ⟨Bt, hBt⟩ : ∃ Bt, Bt = makeP (twoV (overL V l 9) A) la.b := ⟨_, rfl⟩
    have x06' : Unit → Ext w w6 := fun _ => x06
    clear x06 x26 hsc hv2 hv' rp2
    repeat (first|refine go1 ?_|refine zg (fun _ _=>?_)|refine zi (fun _ _=>?_))
    refine c_anyH preA (⟨none, .storeN 4 (.tmp 12) (.tmp 61), none⟩, [12, 10, 8, 0, 1, 2, 3, 4, 5, 6, 7, 8, 9, 10, 12, 13]) [(⟨none, .storeN 4 (.tmp 13) (.tmp 62), none⟩, [13, 11, 14, 0, 1, 2, 3, 4, 5, 6, 7, 8, 9, 10, 11, 12, 13, 14])] 11 9 [(5, .pointer (some ⟨bp, 0, none⟩)), (7, vV), (8, .pointer (some ⟨g, 0, none⟩)), (9, .pointer (some ⟨bs, 0, none⟩))] (G8 vV g bp la fa fb V l M A Bt w6.heap.size) H8 J8 ?_ ?_ ?_ ?_ ⟨rfl, rfl⟩ ?_ ⟨rfl, rfl, rfl, rfl, trivial⟩ (fun i v w w' x h => G8_ext x h) (fun i j v v' w hij h1 h2 => H8_new hij h1 h2) ?_ ?_ ?_ ?_ ?_
    · rfl
    · exact Nat.le_of_ble_eq_true (by kernel_rfl)
    · kernel_rfl
    · kernel_rfl
    · kernel_rfl
    rotate_left
    · exact ⟨Nat.le_of_ble_eq_true (by kernel_rfl), by decide⟩
    · exact fun v9 w' ⟨ts, us, e, h1, h2⟩ => ⟨.agg us.toArray, ⟨us, rfl, h2⟩, fun ρ w'' k hρ hk => extract_wp (t := 51) (hρ.trans e) rfl hk⟩
    · exact fun ρ w' val k h => storeN_cong (n := 4) (a := 12) (b := 61) (t := 62) (by decide) (by decide) h
    rotate_right
    · refine ⟨fun ρ1 w7 x7 => ?_, fun ρ1 w7 x7 => ?_, fun ρ1 w7 x7 => ?_, fun ρ1 w7 x7 => ?_, fun ρ1 w7 x7 => ?_, fun ρ1 w7 x7 => ?_, fun ρ1 w7 x7 => ?_, fun ρ1 w7 x7 => ?_, fun ρ1 w7 x7 => ?_, fun ρ1 w7 x7 => ?_, fun ρ1 w7 x7 => ?_, fun ρ1 w7 x7 => ?_, fun ρ1 w7 x7 => ?_, fun ρ1 w7 x7 => ?_, trivial⟩
      · show regK _ (.cons ⟨some 52, .move (.tmp 7), none⟩ .nil) (fun ρ' w' => Ext w7 w' ∧ G8 vV g bp la fa fb V l M A Bt w6.heap.size 0 (ρ' 52) w' ∧ H8 0 (ρ' 52) w7) (upds ρ1 ([(5, Value.pointer (some ⟨bp, 0, none⟩)), (7, vV), (8, Value.pointer (some ⟨g, 0, none⟩)), (9, Value.pointer (some ⟨bs, 0, none⟩))])) w7
        repeat (first|refine go1 ?_|refine zg (fun _ _=>?_)|refine zi (fun _ _=>?_))
        exact ⟨Ext.refl _, rfl, fun h => absurd h (by decide)⟩
      · show regK _ (.cons ⟨some 53, .move (.tmp 8), none⟩ .nil) (fun ρ' w' => Ext w7 w' ∧ G8 vV g bp la fa fb V l M A Bt w6.heap.size 1 (ρ' 53) w' ∧ H8 1 (ρ' 53) w7) (upds ρ1 ([(5, Value.pointer (some ⟨bp, 0, none⟩)), (7, vV), (8, Value.pointer (some ⟨g, 0, none⟩)), (9, Value.pointer (some ⟨bs, 0, none⟩))])) w7
        repeat (first|refine go1 ?_|refine zg (fun _ _=>?_)|refine zi (fun _ _=>?_))
        exact ⟨Ext.refl _, rfl, fun h => absurd h (by decide)⟩
      · intro v1 h1
        obtain rfl : v1 = .pointer (some ⟨g, 0, none⟩) := h1
        show regK _ (.cons ⟨some 54, .call F.graph_Graph_All [.tmp 53], none⟩ .nil) (fun ρ' w' => Ext w7 w' ∧ G8 vV g bp la fa fb V l M A Bt w6.heap.size 2 (ρ' 54) w' ∧ H8 2 (ρ' 54) w7) (upds ρ1 ([(53, Value.pointer (some ⟨g, 0, none⟩))] ++ [(5, Value.pointer (some ⟨bp, 0, none⟩)), (7, vV), (8, Value.pointer (some ⟨g, 0, none⟩)), (9, Value.pointer (some ⟨bs, 0, none⟩))])) w7
        refine zC rfl (all_spec (M := M) (l := l) _ (G6.ext x7).r (fun b hb => Nat.lt_of_lt_of_le (hM6 b hb) x7.size) (by omega)) ?_
        rintro u8 w8 ⟨o8, x8⟩
        have o8 := (o8.sub (M' := []) (by simp)).sl (by simp)
        repeat (first|refine go1 ?_|refine zg (fun _ _=>?_)|refine zi (fun _ _=>?_))
        exact ⟨x8, o8, fun h => absurd h (by decide)⟩
      · intro v0 h0 v2 h2
        obtain rfl : v0 = vV := h0
        have h2 : SlR entR [] w7 v2 l := h2
        show regK _ (.cons ⟨some 55, .call F.kedgeref17_Over [.tmp 52, .tmp 54, .const (.int .i64 9)], none⟩ .nil) (fun ρ' w' => Ext w7 w' ∧ G8 v0 g bp la fa fb V l M A Bt w6.heap.size 3 (ρ' 55) w' ∧ H8 3 (ρ' 55) w7) (upds ρ1 ([(54, v2), (52, v0)] ++ [(5, Value.pointer (some ⟨bp, 0, none⟩)), (7, v0), (8, Value.pointer (some ⟨g, 0, none⟩)), (9, Value.pointer (some ⟨bs, 0, none⟩))])) w7
        refine zC rfl (over17_spec (M := []) (V := V) (l := l) 9 _ (SlE.ext x7 hv6) h2 (by have := hc8.len; omega) (by omega) (fun x hx => ent_outs (hE6 x hx))) ?_
        rintro u8 w8 ⟨o8, x8⟩
        have o8 := o8.sl
        repeat (first|refine go1 ?_|refine zg (fun _ _=>?_)|refine zi (fun _ _=>?_))
        exact ⟨x8, o8, fun h => absurd h (by decide)⟩
      · have rp7 : Row w7 ⟨bp, 0, none⟩ (pactCs la fa fb) := Row.ext x7 rp6
        show regK _ (.cons ⟨some 56, .fieldAddr 1 (.tmp 5), none⟩ .nil) (fun ρ' w' => Ext w7 w' ∧ G8 vV g bp la fa fb V l M A Bt w6.heap.size 4 (ρ' 56) w' ∧ H8 4 (ρ' 56) w7) (upds ρ1 ([(5, Value.pointer (some ⟨bp, 0, none⟩)), (7, vV), (8, Value.pointer (some ⟨g, 0, none⟩)), (9, Value.pointer (some ⟨bs, 0, none⟩))])) w7
        repeat (first|refine go1 ?_|refine zg (fun _ _=>?_)|refine zi (fun _ _=>?_))
        exact ⟨Ext.refl _, rfl, fun h => absurd h (by decide)⟩
      · intro v4 h4
        obtain rfl : v4 = .pointer (some (Addr.add ⟨bp, 0, none⟩ 1)) := h4
        have rp7 : Row w7 ⟨bp, 0, none⟩ (pactCs la fa fb) := Row.ext x7 rp6
        show regK _ (.cons ⟨some 57, .loadN 7 (.tmp 56), none⟩ .nil) (fun ρ' w' => Ext w7 w' ∧ G8 vV g bp la fa fb V l M A Bt w6.heap.size 5 (ρ' 57) w' ∧ H8 5 (ρ' 57) w7) (upds ρ1 ([(56, Value.pointer (some (Addr.add ⟨bp, 0, none⟩ 1)))] ++ [(5, Value.pointer (some ⟨bp, 0, none⟩)), (7, vV), (8, Value.pointer (some ⟨g, 0, none⟩)), (9, Value.pointer (some ⟨bs, 0, none⟩))])) w7
        repeat (first|refine go1 ?_|refine zg (fun _ _=>?_)|refine zi (fun _ _=>?_))
        exact ⟨Ext.refl _, rfl, fun h => absurd h (by decide)⟩
      · have rp7 : Row w7 ⟨bp, 0, none⟩ (pactCs la fa fb) := Row.ext x7 rp6
        show regK _ (.cons ⟨some 58, .fieldAddr 8 (.tmp 5), none⟩ .nil) (fun ρ' w' => Ext w7 w' ∧ G8 vV g bp la fa fb V l M A Bt w6.heap.size 6 (ρ' 58) w' ∧ H8 6 (ρ' 58) w7) (upds ρ1 ([(5, Value.pointer (some ⟨bp, 0, none⟩)), (7, vV), (8, Value.pointer (some ⟨g, 0, none⟩)), (9, Value.pointer (some ⟨bs, 0, none⟩))])) w7
        repeat (first|refine go1 ?_|refine zg (fun _ _=>?_)|refine zi (fun _ _=>?_))
        exact ⟨Ext.refl _, rfl, fun h => absurd h (by decide)⟩
      · intro v6 h6
        obtain rfl : v6 = .pointer (some (Addr.add ⟨bp, 0, none⟩ 8)) := h6
        have rp7 : Row w7 ⟨bp, 0, none⟩ (pactCs la fa fb) := Row.ext x7 rp6
        show regK _ (.cons ⟨some 59, .loadN 7 (.tmp 58), none⟩ .nil) (fun ρ' w' => Ext w7 w' ∧ G8 vV g bp la fa fb V l M A Bt w6.heap.size 7 (ρ' 59) w' ∧ H8 7 (ρ' 59) w7) (upds ρ1 ([(58, Value.pointer (some (Addr.add ⟨bp, 0, none⟩ 8)))] ++ [(5, Value.pointer (some ⟨bp, 0, none⟩)), (7, vV), (8, Value.pointer (some ⟨g, 0, none⟩)), (9, Value.pointer (some ⟨bs, 0, none⟩))])) w7
        repeat (first|refine go1 ?_|refine zg (fun _ _=>?_)|refine zi (fun _ _=>?_))
        exact ⟨Ext.refl _, rfl, fun h => absurd h (by decide)⟩
      · intro v3 h3 v5 h5 v8 h8
        have h3 : SlE entE w7 v3 (overL V l 9) := h3
        obtain rfl : v5 = .agg (psmCs la.a fa).toArray := h5
        obtain rfl : v8 = .agg (psmCs la.b fb).toArray := h8
        show regK _ (.cons ⟨some 60, .call F.kedgelaw18_two [.tmp 55, .tmp 57, .tmp 59], none⟩ .nil) (fun ρ' w' => Ext w7 w' ∧ G8 vV g bp la fa fb V l M A Bt w6.heap.size 8 (ρ' 60) w' ∧ H8 8 (ρ' 60) w7) (upds ρ1 ([(59, Value.agg (psmCs la.b fb).toArray), (57, Value.agg (psmCs la.a fa).toArray), (55, v3)] ++ [(5, Value.pointer (some ⟨bp, 0, none⟩)), (7, vV), (8, Value.pointer (some ⟨g, 0, none⟩)), (9, Value.pointer (some ⟨bs, 0, none⟩))])) w7
        refine zC rfl (two_spec (N := M) (V := overL V l 9) (a := la.a) (b := la.b) (B := monB i) _ h3 (R.ext hA6 x7) (R.ext hB6' x7) (by omega) hV1 ⟨hmb.1, by omega⟩ hV2 (fun b hb => Nat.lt_of_lt_of_le (hM6 b hb) x7.size)) ?_
        rintro _ w8 ⟨ts, us, rfl, t8, u8, x8⟩
        rw [← hA] at t8 u8
        rw [← hBt] at u8
        repeat (first|refine go1 ?_|refine zg (fun _ _=>?_)|refine zi (fun _ _=>?_))
        exact ⟨x8, ⟨ts, us, rfl, t8, u8⟩, fun h => absurd h (by decide)⟩
      · rintro _ ⟨ts, us, rfl, t8, u8⟩
        show regK _ (.cons ⟨some 51, .move (.tmp 60), none⟩ .nil) (fun ρ' w' => Ext w7 w' ∧ G8 vV g bp la fa fb V l M A Bt w6.heap.size 9 (ρ' 51) w' ∧ H8 9 (ρ' 51) w7) (upds ρ1 ([(60, Value.tuple #[.agg ts.toArray, .agg us.toArray])] ++ [(5, Value.pointer (some ⟨bp, 0, none⟩)), (7, vV), (8, Value.pointer (some ⟨g, 0, none⟩)), (9, Value.pointer (some ⟨bs, 0, none⟩))])) w7
        repeat (first|refine go1 ?_|refine zg (fun _ _=>?_)|refine zi (fun _ _=>?_))
        exact ⟨Ext.refl _, ⟨ts, us, rfl, t8, u8⟩, fun h => absurd h (by decide)⟩
      · rintro _ ⟨ts, us, rfl, t8, u8⟩
        show regK _ (.cons ⟨some 61, .extract 0 (.tmp 51), none⟩ .nil) (fun ρ' w' => Ext w7 w' ∧ G8 vV g bp la fa fb V l M A Bt w6.heap.size 10 (ρ' 61) w' ∧ H8 10 (ρ' 61) w7) (upds ρ1 ([(51, Value.tuple #[.agg ts.toArray, .agg us.toArray])] ++ [(5, Value.pointer (some ⟨bp, 0, none⟩)), (7, vV), (8, Value.pointer (some ⟨g, 0, none⟩)), (9, Value.pointer (some ⟨bs, 0, none⟩))])) w7
        repeat (first|refine go1 ?_|refine zg (fun _ _=>?_)|refine zi (fun _ _=>?_))
        exact ⟨Ext.refl _, ⟨ts, rfl, t8⟩, fun h => absurd h (by decide)⟩
      · rintro _ ⟨ts, us, rfl, t8, u8⟩
        show regK _ (.cons ⟨some 62, .extract 1 (.tmp 51), none⟩ .nil) (fun ρ' w' => Ext w7 w' ∧ G8 vV g bp la fa fb V l M A Bt w6.heap.size 11 (ρ' 62) w' ∧ H8 11 (ρ' 62) w7) (upds ρ1 ([(51, Value.tuple #[.agg ts.toArray, .agg us.toArray])] ++ [(5, Value.pointer (some ⟨bp, 0, none⟩)), (7, vV), (8, Value.pointer (some ⟨g, 0, none⟩)), (9, Value.pointer (some ⟨bs, 0, none⟩))])) w7
        repeat (first|refine go1 ?_|refine zg (fun _ _=>?_)|refine zi (fun _ _=>?_))
        exact ⟨Ext.refl _, ⟨us, rfl, u8⟩, fun h => absurd h (by decide)⟩
      · show regK _ (.cons ⟨some 12, .alloc T.api_Tx zTx, none⟩ .nil) (fun ρ' w' => Ext w7 w' ∧ G8 vV g bp la fa fb V l M A Bt w6.heap.size 12 (ρ' 12) w' ∧ H8 12 (ρ' 12) w7) (upds ρ1 ([(5, Value.pointer (some ⟨bp, 0, none⟩)), (7, vV), (8, Value.pointer (some ⟨g, 0, none⟩)), (9, Value.pointer (some ⟨bs, 0, none⟩))])) w7
        refine zH (fun b8 w8 x8 a8 hb8 => ?_)
        repeat (first|refine go1 ?_|refine zg (fun _ _=>?_)|refine zi (fun _ _=>?_))
        exact ⟨x8, ⟨b8, rfl, Nat.le_trans x7.size hb8, a8.lt, a8⟩, fun _ => ⟨b8, rfl, hb8⟩⟩
      · show regK _ (.cons ⟨some 13, .alloc T.api_Tx zTx, none⟩ .nil) (fun ρ' w' => Ext w7 w' ∧ G8 vV g bp la fa fb V l M A Bt w6.heap.size 13 (ρ' 13) w' ∧ H8 13 (ρ' 13) w7) (upds ρ1 ([(5, Value.pointer (some ⟨bp, 0, none⟩)), (7, vV), (8, Value.pointer (some ⟨g, 0, none⟩)), (9, Value.pointer (some ⟨bs, 0, none⟩))])) w7
        refine zH (fun b8 w8 x8 a8 hb8 => ?_)
        repeat (first|refine go1 ?_|refine zg (fun _ _=>?_)|refine zi (fun _ _=>?_))
        exact ⟨x8, ⟨b8, rfl, Nat.le_trans x7.size hb8, a8.lt, a8⟩, fun _ => ⟨b8, rfl, hb8⟩⟩
    · intro ρ2 w7 x7 v0 h0 v1 h1 v2 h2 v3 h3 v4 h4 v5 h5 v6 h6 v7 h7 v8 h8 v9 h9 v10 h10 v11 h11 v12 h12 v13 h13 hJ
      obtain ⟨ts, rfl, tA⟩ : ∃ ts : List Value, v10 = .agg ts.toArray ∧ txR.rel M w7 ts A := h10
      obtain ⟨us, rfl, tB⟩ : ∃ us : List Value, v11 = .agg us.toArray ∧ txR.rel M w7 us Bt := h11
      obtain ⟨b12, rfl, hb12, l12, a12⟩ : ∃ b, v12 = .pointer (some ⟨b, 0, none⟩) ∧ w6.heap.size ≤ b ∧ b < w7.heap.size ∧ At w7 b (.cells zTx.toArray T.api_Tx (0, 0)) := h12
      obtain ⟨b13, rfl, hb13, l13, a13⟩ : ∃ b, v13 = .pointer (some ⟨b, 0, none⟩) ∧ w6.heap.size ≤ b ∧ b < w7.heap.size ∧ At w7 b (.cells zTx.toArray T.api_Tx (0, 0)) := h13
      have hne : b12 ≠ b13 := fun e => hJ 12 13 (.pointer (some ⟨b12, 0, none⟩)) (.pointer (some ⟨b13, 0, none⟩)) (by simp [dstT, preA]) (by simp [dstT, preA]) (by decide) (by decide) (by decide) (by decide) (by decide) (.inl ⟨rfl, rfl⟩) (by rw [e])
      clear hJ h2 h3 h4 h5 h6 h7 h8 h9
      show regK _ (.cons ⟨none, .storeN 4 (.tmp 12) (.tmp 61), none⟩ (.cons ⟨none, .storeN 4 (.tmp 13) (.tmp 62), none⟩ .nil)) _ (upds ρ2 ([(13, Value.pointer (some ⟨b13, 0, none⟩)), (12, Value.pointer (some ⟨b12, 0, none⟩)), (62, Value.agg us.toArray), (61, Value.agg ts.toArray), (51, v9), (60, v8), (59, v7), (58, v6), (57, v5), (56, v4), (55, v3), (54, v2), (53, v1), (52, v0)] ++ [(5, Value.pointer (some ⟨bp, 0, none⟩)), (7, vV), (8, Value.pointer (some ⟨g, 0, none⟩)), (9, Value.pointer (some ⟨bs, 0, none⟩))])) w7
      have hzz : ∀ v ∈ zTx, (∀ s, v ≠ .string s) ∧ ∀ n, v ≠ .int .i64 n := by
        intro v hv
        simp only [zTx, List.mem_cons, List.not_mem_nil, or_false] at hv
        rcases hv with rfl | rfl | rfl | rfl <;> exact ⟨fun s h => (by cases h), fun n h => by cases h⟩
      replace tA := txR_off (txR_off tA a12 hzz) a13 hzz
      replace tB := txR_off (txR_off tB a12 hzz) a13 hzz
      obtain ⟨ia, oa, rfl, pa1, pa2, -⟩ := id tA
      obtain ⟨ib, ob, rfl, pb1, pb2, -⟩ := id tB
      have e1 := pa1.one
      have e2 := pa2.one
      have e3 := pb1.one
      have e4 := pb2.one
      clear pa1 pa2 pb1 pb2
      refine st_setN (w0 := w6) (n := 4) (vs := txCs A ia oa) x7 hb12 a12 rfl rfl rfl rfl (by simp [txCs, e1, e2]; exact ⟨rfl, rfl⟩) (fun w8 x8 c8 a8 r8 => ?_)
      refine st_setN (w0 := w6) (n := 4) (vs := txCs Bt ib ob) x8 hb13 (At.chg c8 a13 (by simpa using Ne.symm hne)) rfl rfl rfl rfl (by simp [txCs, e3, e4]; exact ⟨rfl, rfl⟩) (fun w9 x9 c9 a9 r9 => ?_)
      have ra9 : Row w9 ⟨b12, 0, none⟩ (txCs A ia oa) := Row.chg c9 r8 (by simpa using hne)
      have tA9 : txR.rel M w9 (txCs A ia oa) A := R.step txR (R.step txR tA c8 (M' := b13 :: b12 :: M) (fun b hb => .inl (by simp at hb; simp [hb])) (fun b hb => .inl hb)) c9 (M' := M) (fun b hb => .inl (by simp at hb; simp [hb])) (fun b hb => .inl (by simp [hb]))
      have tB9 : txR.rel M w9 (txCs Bt ib ob) Bt := R.step txR (R.step txR tB c8 (M' := b13 :: b12 :: M) (fun b hb => .inl (by simp at hb; simp [hb])) (fun b hb => .inl hb)) c9 (M' := M) (fun b hb => .inl (by simp at hb; simp [hb])) (fun b hb => .inl (by simp [hb]))
      have s69 := x9.size
      have l12 : b12 < w9.heap.size := by have := c8.size; have := c9.size; omega
      have l13 : b13 < w9.heap.size := by have := c8.size; have := c9.size; omega
      have G9 := G6.ext x9
      have r9s := Row.ext x9 r6
      have S9 := hS6.ext x9
      have hM9 : ∀ b ∈ M, b < w9.heap.size := fun b hb => Nat.lt_of_lt_of_le (hM6 b hb) s69
      have x09' : Unit → Ext w w9 := fun _ => (x06' ()).trans x9
      have x29 : Unit → Ext w6 w9 := fun _ => x9
      have lbs9 : bs < w9.heap.size := by omega
      clear tA tB a12 a13 a8 a9 r8 c8 c9 x8 x7 G6 r6 hS6 rp6 hv6 hA6 hB6' x06' x9
      have hAsm : A.Sm := by rw [hA]; exact makeP_sm _ _
      have hBsm : Bt.Sm := by rw [hBt]; exact makeP_sm _ _
      have hfee : ∀ x ∈ l, x.fee ≤ 1000000000000 := fun x hx => by have := hMon.fee x hx; omega
      repeat' (first|(refine zC (d := some 64) rfl (gcopy_u (M := M) (l := l) _ G9.r (fun b hb => hM9 b hb) (by omega)) ?_; rintro _ w10 ⟨gh, Mh, rfl, H10, x10⟩)|(first|refine go1 ?_|refine zg (fun _ _=>?_)|refine zi (fun _ _=>?_)))
      have hBh := H10.gr.base
      have hLh := H10.gr.lt
      have G10 : GrU w10 w2.heap.size g M Mh l := (GrU.of G9).more x10 (fun b hb => .inr (hBh b hb))
      have s910 := x10.size
      have tA10 : txR.rel (M ++ Mh) w10 (txCs A ia oa) A := R.step txR tA9 x10 (by simp) (fun b hb => (List.mem_append.1 hb).elim .inl (fun h => .inr (hBh b h)))
      have tB10 : txR.rel (M ++ Mh) w10 (txCs Bt ib ob) Bt := R.step txR tB9 x10 (by simp) (fun b hb => (List.mem_append.1 hb).elim .inl (fun h => .inr (hBh b h)))
      have V10 : ViewR w10 (.iface T.P_coins_Set (.pointer (some ⟨b, 0, none⟩))) (aget V) := ViewR.of_set (S9.ext x10) (fun e he => by rw [(hc8.each e he).2.2.2.2.1]; decide)
      have hV : ∀ {w' : World}, SetE T.coins_Set w' b mb V → ViewR w' (.iface T.P_coins_Set (.pointer (some ⟨b, 0, none⟩))) (aget V) := fun h => ViewR.of_set h (fun e he => by rw [(hc8.each e he).2.2.2.2.1]; decide)
      have S10 := S9.ext x10
      have lb10 := S10.at_.lt
      have lmb10 := S10.2.1.lt
      have lb9 := S9.at_.lt
      have lmb9 := S9.2.1.lt
      have ra10 := Row.ext x10 ra9
      have rb10 := Row.ext x10 r9
      have rs10 := Row.ext x10 r9s
      have x010' : Unit → Ext w w10 := fun _ => (x09' ()).trans x10
      have hM10 : ∀ b ∈ M, b < w10.heap.size := fun b hb => by have := hM9 b hb; omega
      have s09 := (x09' ()).size
      clear x10 S9 ra9 r9 r9s G9 tA9 tB9 x29
      refine zC (d := some 69) rfl (accept_gu (M := Mh) (U := M) (N := M ++ Mh) (l := l) (f := aget V) (cs := txCs A ia oa) (t := A) 9 0 _ H10 hM10 (fun b hb => by simp [hb]) V10 tA10 hAsm (fun b hb => (List.mem_append.1 hb).elim (hM10 b) (hLh b)) (fun b hb => by simp [hb]) (by omega) hfee) ?_
      rintro _ w11 ⟨u1, er1, Mh1, rfl, hu1, he1, H11, c11, hMh1, hd1⟩
      have s1011 := c11.size
      have hBh1 := H11.gr.base
      have hLh1 := H11.gr.lt
      have nodA := H11.gr.nodup
      have okA := H11.gr.ok
      have hllA : (accL (aget V) l A 9 0).length ≤ l.length + 1 := acc_le hnd6
      have hMonA : Money V (accL (aget V) l A 9 0) 9 (monB (i + 1)) := hMon.step hc8 hnd6 hE6 (by omega) hA
      have hmb1 := monB_le (i := i + 1) (by omega)
      have G11 : GrU w11 w2.heap.size g M Mh1 l := G10.chg c11 hMh1
      have tA11 : txR.rel (M ++ Mh1) w11 (txCs A ia oa) A := R.step txR tA10 c11 (fun b hb => .inl (by simp [hb])) (fun b hb => (List.mem_append.1 hb).elim (fun h => .inl (by simp [h])) (fun h => (hMh1 b h).imp (fun h => by simp [h]) id))
      have tB11 : txR.rel (M ++ Mh1) w11 (txCs Bt ib ob) Bt := R.step txR tB10 c11 (fun b hb => .inl (by simp [hb])) (fun b hb => (List.mem_append.1 hb).elim (fun h => .inl (by simp [h])) (fun h => (hMh1 b h).imp (fun h => by simp [h]) id))
      have S11 : SetE T.coins_Set w11 b mb V := S10.chg c11 (fun h => by have := hBh b h; omega) (fun h => by have := hBh mb h; omega)
      have ra11 := Row.chg c11 ra10 (fun h => by have := hBh _ h; have e : (⟨b12, 0, none⟩ : Addr).block = b12 := rfl; omega)
      have rb11 := Row.chg c11 rb10 (fun h => by have := hBh _ h; have e : (⟨b13, 0, none⟩ : Addr).block = b13 := rfl; omega)
      have rs11 := Row.chg c11 rs10 (fun h => by have := hBh _ h; have e : (⟨bs, 0, none⟩ : Addr).block = bs := rfl; omega)
      have x011' : Unit → Ext w w11 := fun _ => (Ext.chg (x010' ()) c11).mono (fun b hb => .inr (by have := hBh b hb; omega))
      have hM11 : ∀ b ∈ M, b < w11.heap.size := fun b hb => by have := hM10 b hb; omega
      have hb1 : ∀ b ∈ blkOf u1, w10.heap.size ≤ b := hu1.base
      have hl1 : ∀ b ∈ blkOf u1, b < w11.heap.size := fun b hb => Own.blk_lt hu1 b hb
      clear c11 S10 ra10 rb10 rs10 tA10 tB10 V10 H10 G10
      repeat (first|refine go1 ?_|refine zg (fun _ _=>?_)|refine zi (fun _ _=>?_))
      refine zC (d := some 76) rfl (accept_gu (M := Mh1) (U := M) (N := M ++ Mh1) (l := accL (aget V) l A 9 0) (f := aget V) (cs := txCs Bt ib ob) (t := Bt) 9 0 _ H11 hM11 (fun b hb => by simp [hb]) (hV S11) tB11 hBsm (fun b hb => (List.mem_append.1 hb).elim (hM11 b) (hLh1 b)) (fun b hb => by simp [hb]) (by omega) (fun x hx => by have := hMonA.fee x hx; omega)) ?_
      rintro _ w12 ⟨u2, er2, Mh2, rfl, hu2, he2, H12, c12, hMh2, hd2⟩
      have s1112 := c12.size
      have hBh2 := H12.gr.base
      have hLh2 := H12.gr.lt
      have nodB := H12.gr.nodup
      have hllB : (accL (aget V) (accL (aget V) l A 9 0) Bt 9 0).length ≤ (accL (aget V) l A 9 0).length + 1 := acc_le nodA
      have G12 : GrU w12 w2.heap.size g M Mh2 l := G11.chg c12 hMh2
      have tA12 : txR.rel (M ++ Mh2) w12 (txCs A ia oa) A := R.step txR tA11 c12 (fun b hb => .inl (by simp [hb])) (fun b hb => (List.mem_append.1 hb).elim (fun h => .inl (by simp [h])) (fun h => (hMh2 b h).imp (fun h => by simp [h]) id))
      have tB12 : txR.rel (M ++ Mh2) w12 (txCs Bt ib ob) Bt := R.step txR tB11 c12 (fun b hb => .inl (by simp [hb])) (fun b hb => (List.mem_append.1 hb).elim (fun h => .inl (by simp [h])) (fun h => (hMh2 b h).imp (fun h => by simp [h]) id))
      have S12 : SetE T.coins_Set w12 b mb V := S11.chg c12 (fun h => by have := hBh1 b h; omega) (fun h => by have := hBh1 mb h; omega)
      have ra12 := Row.chg c12 ra11 (fun h => by have := hBh1 _ h; have e : (⟨b12, 0, none⟩ : Addr).block = b12 := rfl; omega)
      have rb12 := Row.chg c12 rb11 (fun h => by have := hBh1 _ h; have e : (⟨b13, 0, none⟩ : Addr).block = b13 := rfl; omega)
      have rs12 := Row.chg c12 rs11 (fun h => by have := hBh1 _ h; have e : (⟨bs, 0, none⟩ : Addr).block = bs := rfl; omega)
      have x012' : Unit → Ext w w12 := fun _ => (Ext.chg (x011' ()) c12).mono (fun b hb => .inr (by have := hBh1 b hb; omega))
      have hM12 : ∀ b ∈ M, b < w12.heap.size := fun b hb => by have := hM11 b hb; omega
      have hN12 : ∀ b ∈ M ++ Mh2, b < w12.heap.size := fun b hb => (List.mem_append.1 hb).elim (hM12 b) (hLh2 b)
      have hu1 := hu1.chg c12 (fun b hb h => by
        rcases hMh1 b h with h' | h'
        · have := hd1 b hb; exact this h
        · exact hd1 b hb h)
      have s1 := hu1.sl
      have s2 := hu2.sl
      clear c12 S11 ra11 rb11 rs11 tA11 tB11 H11 G11
      repeat (first|refine go1 ?_|refine zg (fun _ _=>?_)|refine zi (fun _ _=>?_))
      refine zC (d := some 81) rfl (id_spec (M := M ++ Mh2) (cs := txCs A ia oa) (t := A) _ tA12 hAsm) ?_
      rintro _ w13 ⟨rfl, x13⟩
      rw [idV_eq]
      have x1213 := x13
      by_cases h1 : (accE (aget V) l A 9 0).1 = 0
      · obtain ⟨rfl, -⟩ := he1.nil_iff.1 h1
        by_cases h2 : (accE (aget V) (accL (aget V) l A 9 0) Bt 9 0).1 = 0
        · obtain ⟨rfl, -⟩ := he2.nil_iff.1 h2
          clear x1213 he1 he2 hu1 hu2
          obtain ⟨lB, hlB⟩ : ∃ lB, lB = (accL (aget V) (accL (aget V) l A 9 0) Bt 9 0) := ⟨_, rfl⟩
          rw [← hlB] at H12 hllB nodB
          have hlen6 : (idsOf lB (aboveL lB Bt)).length ≤ 100000000 := by have := idsOf_length lB (aboveL lB Bt); omega
          repeat' (first|(refine st_len (d := some 92) rfl (SlE.ext (w := w12) (by exact fx) s1) ?_)|(refine st_len (d := some 97) rfl (SlE.ext (w := w12) (by exact fx) s2) ?_)|(refine zJ (t := 95) (p := (((accIds (aget V) l A 9 0).length : Nat) : Int) > 0) rfl (fun hi1 => ?_) (fun hi1 => ?_))|(refine zJ (t := 100) (p := (((accIds (aget V) (accL (aget V) l A 9 0) Bt 9 0).length : Nat) : Int) > 0) rfl (fun hi2 => ?_) (fun hi2 => ?_))|(refine zC (d := some 103) rfl (pabove_spec (M := Mh2) (N := M ++ Mh2) (l := lB) (cs := txCs Bt ib ob) (t := Bt) _ (H12.gr.ext (by exact fx)).r (fun b hb => Nat.lt_of_lt_of_le (hLh2 b hb) (Ext.size (by exact fx))) (R.ext tB12 (by exact fx)) hBsm.ins (by omega)) ?_; rintro v103 w14 ⟨o14, x14⟩)|(refine zI (d := some 105) (cs := [.string (idS A)]) rfl (fun b15 w15 x15 a15 hb15 => ?_))|(refine zC (d := some 106) rfl (equal_spec (l := idsOf lB (aboveL lB Bt)) (m := [idS A]) _ (SlE.ext (w := w14) (by exact fx) o14.sl) (SlE.new (E := strE) (l := [idS A]) a15 rfl (Nat.le_refl _)) hlen6) ?_; rintro _ w16 ⟨rfl, x16⟩)|(refine zN (x := .tmp 108) (p := idsOf lB (aboveL lB Bt) = [idS A]) rfl (fun h7 => ?_) (fun h7 => ?_))|(refine zC (d := some 109) rfl (wakes18_spec _) ?_; rintro _ w17 ⟨rfl, x17⟩)|(first|refine go1 ?_|refine zg (fun _ _=>?_)|refine zi (fun _ _=>?_)))
          · exact x_ret rfl ⟨rfl, (x012' ()).trans (by exact fx)⟩
          · exact x_ret rfl ⟨rfl, (x012' ()).trans (by exact fx)⟩
          · exact x_ret rfl ⟨rfl, (x012' ()).trans (by exact fx)⟩
          · have x1216 : Ext w12 w16 := by exact fx
            have hi1' : accIds (aget V) l A 9 0 = [] := List.eq_nil_of_length_eq_zero (by omega)
            have hi2' : accIds (aget V) (accL (aget V) l A 9 0) Bt 9 0 = [] := List.eq_nil_of_length_eq_zero (by omega)
            obtain ⟨q1, q2⟩ := alone_pair hnd6 hE6 h1 hi1' h2 hi2' nodA (by rw [← hlB]; exact nodB) (by rw [← hlB]; exact h7)
            have hzz2 : checkT A = 0 → checkT Bt = 0 → sizeT A + sizeT Bt ≤ 1000000 := fun hca hcb => by
              have g1 := size_few (sz_of_check hAsm hca) (by rw [hA]; exact makeP_ins _ _)
              have g2 := size_few (sz_of_check hBsm hcb) (by rw [hBt]; exact makeP_ins _ _)
              omega
            have s1216 := x1216.size
            refine zC (d := some 115) rfl (pair_spec (M := M) (U := Mh2) (N := M ++ Mh2) (l := l) (f := aget V) (cs := txCs A ia oa) (ds := txCs Bt ib ob) (a := A) (b := Bt) 9 0 _ (G12.ext x1216) (fun b hb => Nat.lt_of_lt_of_le (hLh2 b hb) s1216) (fun b hb => by simp [hb]) (hV (S12.ext x1216)) (R.ext tA12 x1216) hAsm (R.ext tB12 x1216) hBsm (fun b hb => Nat.lt_of_lt_of_le (hN12 b hb) s1216) (fun b hb => by simp [hb]) (by omega) hfee hzz2) ?_
            rintro _ w18 ⟨u3, er3, M3, rfl, hu3, he3, G18, c18, hM3, hd3⟩
            rw [q2, ← hlB] at G18
            obtain ⟨rfl, -⟩ := he3.nil_iff.1 q1
            have H18 : GrU w18 w9.heap.size gh Mh2 M3 lB := (H12.ext x1216).chg c18 hM3
            have x018' : Unit → Ext w w18 := fun _ => (Ext.chg ((x012' ()).trans x1216) c18).mono (fun b hb => .inr (by have := hB6 b hb; omega))
            have hL3 := G18.gr.lt
            have hL18 := H18.gr.lt
            clear x1216 x13 x14 x15 x16 c18 he3 hu3
            repeat' (first|(refine zC (d := some 118) rfl (wakes18_spec _) ?_; rintro _ w19 ⟨rfl, x19⟩)|(refine zC (d := some 126) rfl (all_spec (M := Mh2) (l := lB) _ (H18.gr.ext (by exact fx)).r (fun b hb => Nat.lt_of_lt_of_le (hL18 b hb) (Ext.size (by exact fx))) (by omega)) ?_; rintro u20 w20 ⟨o20, x20⟩; have o20 := (o20.sub (M' := []) (by simp)).sl (by simp))|(refine zC (d := some 127) rfl (same18_spec (M := M3) (N := []) (l := lB) _ (G18.gr.ext (by exact fx)).r (fun b hb => Nat.lt_of_lt_of_le (hL3 b hb) (Ext.size (by exact fx))) (o20.ext (by exact fx)) (by omega)) ?_; rintro _ w21 ⟨rfl, x21⟩)|(first|refine go1 ?_|refine zg (fun _ _=>?_)|refine zi (fun _ _=>?_)))
            exact x_ret rfl ⟨rfl, (x018' ()).trans (by exact fx)⟩
        · obtain ⟨ea, eb, rfl⟩ := he2.nil_iff.2 h2
          repeat' (first|(refine zC (d := some 109) rfl (wakes18_spec _) ?_; rintro _ w17 ⟨rfl, x17⟩)|(first|refine go1 ?_|refine zg (fun _ _=>?_)|refine zi (fun _ _=>?_)))
          exact x_ret rfl ⟨rfl, (x012' ()).trans (by exact fx)⟩
      · obtain ⟨ea, eb, rfl⟩ := he1.nil_iff.2 h1
        repeat' (first|(refine zC (d := some 109) rfl (wakes18_spec _) ?_; rintro _ w17 ⟨rfl, x17⟩)|(first|refine go1 ?_|refine zg (fun _ _=>?_)|refine zi (fun _ _=>?_)))
        exact x_ret rfl ⟨rfl, (x012' ()).trans (by exact fx)⟩
end Go.Proofs.YtilhlcnekkkajaaGreat
end
