/- The walk of PoolOver. -/
import Derived.Test.YtcnhbkaclgdehaaGreatO43
set_option linter.unusedVariables false
set_option linter.unusedSimpArgs false
section
namespace Go.Proofs.YtcnhbkaclgdehaaGreat
open Go Go.K
theorem find_cases (V : List En) (q : Pt) : (∃ n, ∃ h : n < V.length, refFind V q = (n : Nat) ∧ aget V q = some V[n].2) ∨ (refFind V q = -1 ∧ aget V q = none) := by
  unfold refFind
  cases hi : refIdx V q with
  | none => exact .inr ⟨rfl, aget_none_idx hi⟩
  | some n => exact .inl ⟨n, idx_lt hi, rfl, aget_some_idx hi (idx_lt hi)⟩
theorem overL_short {V : List En} {l : List Ent} (hV : V.length ≤ 8) (hl : l.length ≤ 10) (hE : ∀ x ∈ l, EntOk x) (h : Int) : (overL V l h).length ≤ 20000 := by
  have h2 := flat_len' (V := V) (h := h) (fun x hx => ent_outs (hE x hx))
  unfold overL
  rw [List.length_append]; omega
theorem overL_is32 {V : List En} {l : List Ent} (hc : CoinsOk V 8) (hE : ∀ x ∈ l, EntOk x) (h : Int) : ∀ e ∈ overL V l h, is32 e.1.i := by
  intro e he
  rcases overL_mem.1 he with h5 | ⟨x, hx, j, hj, rfl, -⟩
  · rw [(hc.each e h5).2.1]; unfold is32; omega
  · have := ent_outs (hE x hx)
    show is32 ((j : Nat) : Int)
    unfold is32; omega
theorem view_inv {w : World} {t : TypeId} {u : Value} {f : Pt → Option Cn} (h : ViewR w (.iface t u) f) {q : Pt} (hq : is32 q.i) {w1 : World} (x : Ext w w1) : ∃ fn rv, methodOf Tryz.prog t u "Get" = some (fn, rv) ∧ hasBody Tryz.prog fn = true ∧ K.Spec Tryz.prog fn [rv, .agg q.cs.toArray] w1 fun r w2 => ∃ c : Cn, r = .tuple #[.agg c.cs.toArray, .bool (f q).isSome] ∧ (f q).getD cn0 = c ∧ Ext w1 w2 := by
  obtain ⟨⟨t', u', e, h⟩, -⟩ := h
  cases e
  obtain ⟨fn, rv, -, h2, h3, h4⟩ := h q hq w1 x
  exact ⟨fn, rv, h2, h3, h4⟩
attribute [local irreducible] regK codeK retK KOp.wp K.Spec u32 leS vnS str zero32 sha2 encT idT sizeT checkT grantB idN stepR workL reachE findI dropG addG aboveL belowL idsOf feeD sizeD cntS metL confL evL inS inB needI needL feeOf needN needE mayE freshP rulesL fitsL feeP dustI numAt byteAt plainP dropAll accE accIds accL askedF makeP coinsP coinsW overL monB outAt overV refFind
abbrev termCs' (b : Nat) (h rate : Int) : List Value := [.iface T.P_coins_Set (.pointer (some ⟨b, 0, none⟩)), .int .i64 h, .int .i64 rate]
set_option maxHeartbeats 4000000 in
theorem over_law {v u : Value} {vals : List Int} {sc : List PSm} {p : Pt} (w : World) (hvals : SlR u16R [] w v vals) (hr : ∀ a ∈ vals, 0 ≤ a ∧ a ≤ 65535) (hsc : SlR psmR [] w u sc) (hp : is32 p.i) :
    K.Spec Tryz.prog F.kedgelaw17_PoolOver [v, u, .agg p.cs.toArray] w fun r w' => r = .bool true ∧ Ext w w' := by
  refine s_kedgelaw17_PoolOver rfl ?_
  unfold k_kedgelaw17_PoolOver
  refine oy ?_
  repeat' (first|(refine zD (d := some 5) (cs := p.cs) rfl rfl (fun bp w1 x1 a1 (r1 : Row w1 ⟨bp, 0, none⟩ p.cs) hbp=>?_))|(refine zC (d := some 29) rfl (coins17_spec _ (SlR.ext hvals (by exact fx)) hr) ?_; rintro vV w2 ⟨hv2, hb2, x2⟩)|(first|refine go1 ?_|refine zg (fun _ _=>?_)|refine zi (fun _ _=>?_)))
  have hc8 : CoinsOk (coinsP vals (min vals.length 8)) 8 := (coinsP_ok hr _).more (by omega)
  generalize coinsP vals (min vals.length 8) = V at hv2 hc8
  refine zC rfl (new_spec _) ?_
  rintro _ w3 ⟨g, M0, rfl, G3, x3⟩
  repeat' (first|(refine zC (d := some 32) rfl (set17_spec _ (SlE.ext (w := w2) (by exact fx) hv2) hc8 (by decide)) ?_; rintro _ w4 ⟨b, mb, rfl, hS4, hb4, hmb4, x4⟩)|(refine zE (d' := 9) (fun _=>rfl) rfl rfl rfl (fun bs w5 x5 a5 (r5 : Row w5 ⟨bs, 0, none⟩ (termCs' b 9 0)) hbs5=>?_))|(refine zG (d := some 37) (E := psmR) (M := []) (l := sc) rfl (SlR.ext hsc (by exact fx)) ?_)|(refine st_min (d := some 38) rfl rfl ?_)|(refine st_takeR (d := some 39) (E := psmR) (n := min sc.length 10) rfl rfl (by omega) hsc (by omega) rfl (fun v' hv' => ?_))|(refine zG (d := some 40) (E := psmR) (M := []) (l := sc.take (min sc.length 10)) rfl (SlR.ext hv' (by exact fx)) ?_)|(first|refine go1 ?_|refine zg (fun _ _=>?_)|refine zi (fun _ _=>?_)))
  have hSl : (sc.take (min sc.length 10)).length ≤ 10 := by rw [List.length_take]; omega
  generalize sc.take (min sc.length 10) = S at *
  have hB3 := G3.base
  have hM03 := G3.lt
  have l5 := a5.lt
  have s23 := x3.size
  have s34 := x4.size
  have s45 := x5.size
  have s02 : w.heap.size ≤ w2.heap.size := Ext.size (show Ext w w2 by exact fx)
  have x25 : Unit → Ext w2 w5 := fun _ => x3.trans (x4.trans x5)
  have x05 : Unit → Ext w w5 := fun _ => by exact fx
  have n1 : b ∉ M0 := fun h => by have := hM03 b h; omega
  have n2 : mb ∉ M0 := fun h => by have := hM03 mb h; omega
  have n3 : bs ∉ M0 := fun h => by have := hM03 bs h; omega
  have G5 := G3.ext (x4.trans x5)
  have hS5 := hS4.ext x5
  have a12 := a1.ext x2
  have l1 := a12.lt
  have rp2 : Row w2 ⟨bp, 0, none⟩ p.cs := Row.ext x2 r1
  have hbpB : bp < w2.heap.size := l1
  clear x2 x3 x4 x5 a5 G3 hM03 hS4 hvals a1 r1 a12 x1
  repeat' (first|(refine c_loopV (a := .seq _ (.seq (.cond _ _ _) (.seq (.block 1 _) _))) (fun (p : Nat × List Ent × List Nat) w' => Ext w2 w' ∧ Ext w w' ∧ p.1 ≤ S.length ∧ p.2.1.length ≤ p.1 ∧ Gr w' w2.heap.size g p.2.2 p.2.1 ∧ Row w' ⟨bs, 0, none⟩ (termCs' b 9 0) ∧ bs ∉ p.2.2 ∧ bs < w'.heap.size ∧ SetE T.coins_Set w' b mb V ∧ b ∉ p.2.2 ∧ mb ∉ p.2.2 ∧ Money V p.2.1 9 (monB p.1)) (fun p => [(5, .pointer (some ⟨bp, 0, none⟩)), (7, vV), (8, .pointer (some ⟨g, 0, none⟩)), (9, .pointer (some ⟨bs, 0, none⟩)), (39, v'), (40, .int .i64 (S.length : Nat)), (41, .int .i64 p.1)]) (fun p => S.length - p.1) (0, [], M0) ⟨rfl, rfl, rfl, rfl, rfl, rfl, rfl, trivial⟩ ⟨x25 (), x05 (), by simp, by simp, G5, r5, n3, l5, hS5, n1, n2, money0 hc8 9⟩ ?_; rintro ⟨i, l, M⟩ ρ w6 ⟨x26, x06, hi, hli, G6, r6, hbsM, lbs, hS6, hbM, hmbM, hMon⟩; simp only at hi hli G6 hbsM hbM hmbM hMon; dsimp only)|(refine zL (x := .tmp 42) (p := ((i : Nat) : Int) < ((S.length : Nat) : Int)) rfl (fun h5 => ?_) (fun h5 => ?_))|(first|refine go1 ?_|refine zg (fun _ _=>?_)|refine zi (fun _ _=>?_)))
  · clear G5 r5 hS5
    have hil : i < S.length := by omega
    have hlen : l.length ≤ 1000 := by omega
    have hE6 := G6.ok
    have hnd6 := G6.nodup
    have hM6 := G6.lt
    have hB6 := G6.base
    obtain ⟨hV1, hV2, hV3⟩ := view_ok hc8 (by decide) hE6 hlen hMon
    have hmb := monB_le (i := i) (by omega)
    refine st_elemR (d := some 43) (E := psmR) (M := M) rfl rfl (n := i) (l := S) (SlR.step hv' x06 (by simp) (fun b hb => .inr (by have := hB6 b hb; omega))) rfl hil (fun ad cs r7 he => ?_)
    obtain ⟨fv, rfl, q6, q2⟩ := he
    generalize S[i] = z at *
    obtain ⟨t, ht⟩ : ∃ t, t = makeP (overL V l 9) z := ⟨_, rfl⟩
    have hsmt : t.Sm := by rw [ht]; exact makeP_sm _ _
    have x26' : Unit → Ext w2 w6 := fun _ => x26
    have x06' : Unit → Ext w w6 := fun _ => x06
    clear x26 x06
    repeat' (first|(refine zE (d' := 11) (fun _=>rfl) rfl rfl (by obtain ⟨_, _, rfl⟩ := q6.form; rfl) (fun b12 w7 x7 a12 (r12 : Row w7 ⟨b12, 0, none⟩ (psmCs z fv)) hb12=>?_))|(refine zg (fun w9 x9 => ?_))|(refine zi (fun w9 x9 => ?_))|(refine st_joinV (b := .cons ⟨some 53, _, _⟩ _) (fun (p : List Value) w' => Ext w6 w' ∧ txR.rel M w' p t) (fun p => [(5, .pointer (some ⟨bp, 0, none⟩)), (7, vV), (8, .pointer (some ⟨g, 0, none⟩)), (9, .pointer (some ⟨bs, 0, none⟩)), (39, v'), (40, .int .i64 (S.length : Nat)), (41, .int .i64 i), (45, .pointer (some ⟨g, 0, none⟩)), (51, .agg p.toArray), (52, .agg (termCs' b 9 0).toArray)]) ?_ ?_)|(rintro p ρ9 w10 ⟨x610, t10⟩; try dsimp only)|(refine zB ?_ ?_)|(refine zC (d := some 48) rfl (all_spec (M := M) (l := l) _ (G6.ext (by exact fx)).r (fun b hb => Nat.lt_of_lt_of_le (hM6 b hb) (Ext.size (by exact fx))) (by omega)) ?_; rintro u55 w55 ⟨o55, x55⟩; have o55 := (o55.sub (M' := []) (by simp)).sl (by simp))|(refine zC (d := some 49) rfl (over17_spec (M := []) (V := V) (l := l) 9 _ (SlE.ext (w := w2) ((x26' ()).trans (by exact fx)) hv2) (o55.ext (by exact fx)) (by have := hc8.len; omega) hlen (fun x hx => ent_outs (hE6 x hx))) ?_; rintro v56 w56 ⟨o56, x56⟩; have o56 := o56.sl)|(refine zC (d := some 51) rfl (make17_spec (M := M) (V := overL V l 9) (z := z) (B := monB i) _ (SlE.ext (w := w56) (by exact fx) o56) ⟨fv, rfl, q6.step (show Ext w6 _ by exact fx) (by simp) (fun _ h => .inl h), q2⟩ hV3 hV1 ⟨hmb.1, by have := hmb.2; omega⟩ hV2 (fun x hx => Nat.lt_of_lt_of_le (hM6 x hx) (Ext.size (by exact fx)))) ?_; rintro _ w58 ⟨p, rfl, tB, x58⟩; have tB := txO.rel tB (fun x hx => Nat.lt_of_lt_of_le (hM6 x hx) (Ext.size (by exact fx))); rw [← ht] at tB)|(exact ⟨p, ⟨rfl, rfl, rfl, rfl, rfl, rfl, rfl, rfl, rfl, rfl, trivial⟩, by exact fx, R.ext tB (by exact fx)⟩)|(first|refine go1 ?_|refine zg (fun _ _=>?_)|refine zi (fun _ _=>?_)))
    have G10 := G6.ext x610
    have hS10 := hS6.ext x610
    have hll : (accL (aget V) l t 9 0).length ≤ l.length + 1 := acc_le hnd6
    refine zC (d := some 53) rfl (accept_spec (M := M) (N := M) (l := l) (f := aget V) (t := t) 9 0 _ G10 (ViewR.of_set hS10 (fun e he => by rw [(hc8.each e he).2.2.2.2.1]; decide)) t10 hsmt (fun b hb => Nat.lt_of_lt_of_le (hM6 b hb) x610.size) (fun _ h => h) hlen (fun x hx => by have := hMon.fee x hx; omega)) ?_
    rintro _ w14 ⟨u14, er, M1, rfl, -, -, G14, c14, hM14, -⟩
    have s610 := x610.size
    have s1014 := c14.size
    have hMon14 : Money V (accL (aget V) l t 9 0) 9 (monB (i + 1)) := hMon.step hc8 hnd6 hE6 hlen ht
    have x214 : Ext w2 w14 := (Ext.chg ((x26' ()).trans x610) c14).mono (fun b hb => .inr (hB6 b hb))
    have x014 : Ext w w14 := (Ext.chg ((x06' ()).trans x610) c14).mono (fun b hb => .inr (by have := hB6 b hb; omega))
    have lb := hS10.at_.lt
    have lmb := hS10.2.1.lt
    have new : ∀ y, y < w10.heap.size → y ∉ M → y ∉ M1 := fun y h1 h2 h3 => by
      rcases hM14 y h3 with h | h
      · exact h2 h
      · omega
    have rs14 : Row w14 ⟨bs, 0, none⟩ (termCs' b 9 0) := Row.chg c14 (Row.ext x610 r6) hbsM
    have hS14 := hS10.chg c14 hbM hmbM
    repeat' (first|refine go1 ?_|refine zg (fun _ _=>?_)|refine zi (fun _ _=>?_))
    exact ⟨(i + 1, accL (aget V) l t 9 0, M1), ⟨rfl, rfl, rfl, rfl, rfl, rfl, rfl, trivial⟩, ⟨x214, x014, by simp; omega, by simp; omega, G14, rs14, new _ (by omega) hbsM, by omega, hS14, new _ lb hbM, new _ lmb hmbM, hMon14⟩, by simp; omega⟩
  · clear G5 r5 hS5
    have hlen : l.length ≤ 1000 := by omega
    have hE6 := G6.ok
    have hnd6 := G6.nodup
    have hM6 := G6.lt
    have rp6 : Row w6 ⟨bp, 0, none⟩ p.cs := Row.ext x26 rp2
    have hv6 := SlE.ext x26 hv2
    have hVl := hc8.len
    have hvl := overL_short (V := V) hVl (by omega) hE6 7
    have h32 := overL_is32 hc8 hE6 7
    have hV6 : ViewR w6 (.iface T.P_coins_Set (.pointer (some ⟨b, 0, none⟩))) (aget V) := ViewR.of_set hS6 (fun e he => by rw [(hc8.each e he).2.2.2.2.1]; decide)
    have v13 := over_view 7 hV6 G6.r hM6
    have v14 := over_only 7 G6.r hM6
    have v15 := over_nil 7 hV6
    have hkeys := hc8.nodup
    repeat' (first|(refine zC (d := some 57) rfl (all_spec (M := M) (l := l) _ (G6.ext (by exact fx)).r (fun b hb => Nat.lt_of_lt_of_le (hM6 b hb) (Ext.size (by exact fx))) (by omega)) ?_; rintro u7 w7 ⟨o7, x7⟩; have o7 := (o7.sub (M' := []) (by simp)).sl (by simp))|(refine zC (d := some 58) rfl (over17_spec (M := []) (V := V) (l := l) 7 _ (SlE.ext (w := w6) (by exact fx) hv6) (o7.ext (by exact fx)) (by omega) hlen (fun x hx => ent_outs (hE6 x hx))) ?_; rintro v8 w8 ⟨o8, x8⟩)|(refine zC (d := some 62) rfl (pover_spec T.P_coins_Set (.pointer (some ⟨b, 0, none⟩)) (some ⟨g, 0, none⟩) 7 _) ?_; rintro _ w9 ⟨rfl, x9⟩)|(refine zC (d := some 64) rfl (pover_none (some ⟨g, 0, none⟩) 7 _) ?_; rintro _ w10 ⟨rfl, x10⟩)|(refine zC (d := some 67) rfl (pover_spec T.P_coins_Set (.pointer (some ⟨b, 0, none⟩)) none 7 _) ?_; rintro _ w11 ⟨rfl, x11⟩)|(refine st_build (d := some 80) (cs := entE.f (p, cn0)) rfl ?_)|(refine zI (d := some 81) (cs := entE.f (p, cn0)) rfl (fun b12 w12 x12 a12 hb12 => ?_))|(first|refine go1 ?_|refine zg (fun _ _=>?_)|refine zi (fun _ _=>?_)))
    have x812' : Unit → Ext w8 w12 := fun _ => by exact fx
    have x612 : Ext w6 w12 := by exact fx
    have s67 := x7.size
    refine st_appendX (d := some 82) (E := entE) (v := v8) (l2 := [(p, cn0)]) rfl (o8.ext (x812' ())) (Nat.le_trans x8.size (x812' ()).size) rfl rfl (sl_new a12 rfl) rfl rfl (by simp only [List.length_cons, List.length_nil]; omega) (fun v13' w13 o13 hold c13 _ => ?_)
    have x613 : Unit → Ext w6 w13 := fun _ => (Ext.chg x612 c13).mono (fun y hy => .inr (by have := o8.base y hy; omega))
    obtain ⟨X, hX⟩ : ∃ X, X = overL V l 7 ++ [(p, cn0)] := ⟨_, rfl⟩
    rw [← hX] at o13
    have o13 := o13.sl
    have hXl : X.length ≤ 20001 := by rw [hX, List.length_append]; simp; omega
    have hX32 : ∀ e ∈ X, is32 e.1.i := fun e he => by
      rw [hX] at he
      rcases List.mem_append.1 he with he | he
      · exact h32 e he
      · simp only [List.mem_singleton] at he; subst he; exact hp
    have hget : ∀ q : Pt, 0 ≤ q.i → aget (overL V l 7) q = overV (aget V) l 7 q := fun q hq => over_get hkeys hnd6 hq
    have hv13 := hv6.ext (x613 ())
    have G13 := G6.ext (x613 ())
    have hM13 : ∀ y ∈ M, y < w13.heap.size := fun y hy => Nat.lt_of_lt_of_le (hM6 y hy) (x613 ()).size
    have u13 := v13.ext (x613 ())
    have u14 := v14.ext (x613 ())
    have u15 := v15.ext (x613 ())
    have x013 : Unit → Ext w w13 := fun _ => x06.trans (x613 ())
    clear x812' x7 o7 o8 x8 x9 x10 x11 x12 a12 hb12 x612 c13 v13 v14 v15 hV6 rp6 hv6 hS6 r6 x613
    generalize overL V l 7 = L7 at *
    clear x06 x26 hMon hsc hv2 hv' hX
    repeat' (first|(refine st_len (d := some 83) rfl o13 ?_)|(refine c_loopV (a := .seq _ (.seq (.cond _ _ _) (.seq (.block 3 _) _))) (fun (k : Nat) w' => Ext w13 w' ∧ k ≤ X.length) (fun k => [(5, .pointer (some ⟨bp, 0, none⟩)), (7, vV), (8, .pointer (some ⟨g, 0, none⟩)), (12, v8), (13, overI (.iface T.P_coins_Set (.pointer (some ⟨b, 0, none⟩))) (.pointer (some ⟨g, 0, none⟩)) 7), (14, overI .nilIface (.pointer (some ⟨g, 0, none⟩)) 7), (15, overI (.iface T.P_coins_Set (.pointer (some ⟨b, 0, none⟩))) (.pointer none) 7), (82, v13'), (83, .int .i64 (X.length : Nat)), (84, .int .i64 k)]) (fun k => X.length - k) 0 ⟨rfl, rfl, rfl, rfl, rfl, rfl, rfl, rfl, rfl, rfl, trivial⟩ ⟨Ext.refl _, by simp⟩ ?_; rintro k ρ14 w14 ⟨x14, hk⟩)|(refine zL (x := .tmp 85) (p := ((k : Nat) : Int) < ((X.length : Nat) : Int)) rfl (fun h6 => ?_) (fun h6 => ?_))|(first|refine go1 ?_|refine zg (fun _ _=>?_)|refine zi (fun _ _=>?_)))
    · have hkl : k < X.length := by omega
      have hq := hX32 _ (List.getElem_mem hkl)
      have hq64 : -9223372036854775808 ≤ X[k].1.i ∧ X[k].1.i ≤ 9223372036854775807 := by have := hq.1; have := hq.2; omega
      refine st_elemE (d := some 86) (E := entE) rfl rfl (n := k) (l := X) (SlE.ext x14 o13) rfl hkl (fun ad r7 => ?_)
      generalize X[k] = e at *
      repeat' (first|(refine zE (d' := 17) (fun _=>rfl) rfl rfl rfl (fun b17 w17 x17 a17 (r17 : Row w17 ⟨b17, 0, none⟩ (entE.f e)) hb17=>?_))|(refine zC (d := some 91) rfl (find10_spec e.1 _ (SlE.ext (w := w13) (by exact fx) hold) (by omega)) ?_; rintro _ w18 ⟨rfl, x18⟩)|(first|refine go1 ?_|refine zg (fun _ _=>?_)|refine zi (fun _ _=>?_)))
      obtain ⟨fn, rv, hm, hbd, hS⟩ := view_inv u13 hq (show Ext w13 w18 by exact fx)
      refine st_invoke (d := some 96) rfl hm hbd rfl hS ?_
      rintro _ w19 ⟨c, rfl, hc, x19⟩
      rw [← hget _ hq.1] at hc ⊢
      have hv9 : ∀ {w'}, Ext w13 w' → SlE entE w' v8 L7 := fun x => SlE.ext x hold
      have x1319 : Unit → Ext w13 w19 := fun _ => by exact fx
      have r19 : Row w19 ⟨b17, 0, none⟩ (entE.f e) := Row.ext (show Ext w17 w19 by exact fx) r17
      clear x14 x17 x18 x19 r17 a17 r7 hS
      repeat (first|refine go1 ?_|refine zg (fun _ _=>?_)|refine zi (fun _ _=>?_))
      refine zE (d' := 19) (vs := c.cs) (fun _=>rfl) rfl rfl rfl (fun b20 w20 x20 a20 (r20 : Row w20 ⟨b20, 0, none⟩ c.cs) hb20=>?_)
      (first|refine go1 ?_|refine zg (fun _ _=>?_)|refine zi (fun _ _=>?_))
      (first|refine go1 ?_|refine zg (fun _ _=>?_)|refine zi (fun _ _=>?_))
      refine c_cutV (a := .seq (.reg true (.join (.cons ⟨some 99, _, none⟩ _) _)) _) (fun (_ : Unit) w' => Ext w19 w') (fun _ => [(5, .pointer (some ⟨bp, 0, none⟩)), (7, vV), (8, .pointer (some ⟨g, 0, none⟩)), (12, v8), (13, overI (.iface T.P_coins_Set (.pointer (some ⟨b, 0, none⟩))) (.pointer (some ⟨g, 0, none⟩)) 7), (14, overI .nilIface (.pointer (some ⟨g, 0, none⟩)) 7), (15, overI (.iface T.P_coins_Set (.pointer (some ⟨b, 0, none⟩))) (.pointer none) 7), (82, v13'), (83, .int .i64 (X.length : Nat)), (84, .int .i64 k), (17, .pointer (some ⟨b17, 0, none⟩))]) ?_ ?_
      · refine zg (fun w21 x21 => ?_)
        have hvn := hv9 ((x1319 ()).trans (x20.trans x21))
        rcases find_cases L7 e.1 with ⟨n, hn, hf1, hf2⟩ | ⟨hf1, hf2⟩
        · rw [hf2] at hc ⊢
          rw [hf1, Option.isSome_some]
          have hc : c = L7[n].2 := hc.symm
          rw [hc] at r20
          repeat' (first|(refine st_fixV (d := some 101) (.bool true) rfl (congrArg (fun b => some (Value.bool b)) (decide_eq_true (by omega))) ?_)|(refine st_fixV (d := some 102) (.bool false) rfl rfl ?_)|(refine st_elemE (d := some 109) (E := entE) rfl rfl (n := n) (l := L7) hvn rfl hn (fun ad9 r9 => ?_))|(refine st_fixV (d := some 112) (.bool false) rfl (congrArg (fun o : Option Bool => o.map fun b => Value.bool (if true = true then !b else b)) (cn_same L7[n].2)) ?_)|(first|refine go1 ?_|refine zg (fun _ _=>?_)|refine zi (fun _ _=>?_)))
          exact ⟨(), ⟨rfl, rfl, rfl, rfl, rfl, rfl, rfl, rfl, rfl, rfl, rfl, trivial⟩, by exact fx⟩
        · rw [hf2] at hc ⊢
          rw [hf1, Option.isSome_none]
          have hc : c = cn0 := hc.symm
          rw [hc] at r20
          repeat' (first|(refine st_build (d := some 120) (cs := cn0.cs) rfl ?_)|(refine st_fixV (d := some 121) (.bool false) rfl (congrArg (fun o : Option Bool => o.map fun b => Value.bool (if true = true then !b else b)) (cn_same cn0)) ?_)|(first|refine go1 ?_|refine zg (fun _ _=>?_)|refine zi (fun _ _=>?_)))
          exact ⟨(), ⟨rfl, rfl, rfl, rfl, rfl, rfl, rfl, rfl, rfl, rfl, rfl, trivial⟩, by exact fx⟩
      · clear r20 a20 x20
        rintro _ ρ21 w21 x21
        have r21 : Row w21 ⟨b17, 0, none⟩ (entE.f e) := Row.ext x21 r19
        have x1321 : Unit → Ext w13 w21 := fun _ => (x1319 ()).trans x21
        clear x21 r19 hc
        have fin : (outAt l 7 e.1).isSome = outHas l e.1 := out_is 7 hq.1
        rcases find_cases V e.1 with ⟨n, hn, hf1, hf2⟩ | ⟨hf1, hf2⟩
        all_goals
          repeat' (first|(refine zC (d := some 127) rfl (find10_spec e.1 _ (SlE.ext (w := w13) ((x1321 ()).trans (by exact fx)) hv13) (by omega)) ?_; rintro _ w22 ⟨rfl, x22⟩; rw [hf1])|(first|refine go1 ?_|refine zg (fun _ _=>?_)|refine zi (fun _ _=>?_)))
          obtain ⟨fn2, rv2, hm2, hbd2, hS2⟩ := view_inv u15 hq ((x1321 ()).trans (show Ext w21 w22 by exact fx))
          refine st_invoke (d := some 132) rfl hm2 hbd2 rfl hS2 ?_
          rintro _ w23 ⟨c2, rfl, -, x23⟩
          rw [hf2]
          repeat' (first|(refine zE (d' := 22) (vs := c2.cs) (fun _=>rfl) rfl rfl rfl (fun b24 w24 x24 a24 r24 hb24=>?_))|(refine st_fixV (d := some 137) (.bool true) rfl (congrArg (fun b => some (Value.bool b)) (decide_eq_true (by omega))) ?_)|(refine c_false (x := .tmp 138) rfl ?_)|(refine zC (d := some 144) rfl (get_spec (M := M) (l := l) e.1.s _ (G13.ext ((x1321 ()).trans (by exact fx))).r (fun b hb => Nat.lt_of_lt_of_le (hM13 b hb) ((x1321 ()).trans (by exact fx)).size)) ?_; rintro _ w25 ⟨ds, rfl, ho25, x25⟩; obtain ⟨iv, ov, rfl, p81, p82, -⟩ := ho25; have e81 := p81.one; have e82 := p82.one; have p82 := (p82.sub (M' := []) (by simp)).sl (by simp))|(refine zE (d' := 24) (fun _=>rfl) rfl rfl (by show List.all (entCs _ _ _) _ = true; simp [entCs, e81, e82]; exact ⟨rfl, rfl, rfl, rfl, rfl⟩) (fun b26 w26 x26 a26 (r26 : Row w26 ⟨b26, 0, none⟩ (entCs (getE l e.1.s) iv ov)) hb26=>?_))|(first|refine go1 ?_|refine zg (fun _ _=>?_)|refine zi (fun _ _=>?_)))
          obtain ⟨fn3, rv3, hm3, hbd3, hS3⟩ := view_inv u14 hq ((x1321 ()).trans (show Ext w21 w26 by exact fx))
          refine st_invoke (d := some 151) rfl hm3 hbd3 rfl hS3 ?_
          rintro _ w27 ⟨c3, rfl, -, x27⟩
          rw [fin]
          have hout : outHas l e.1 = (hasE l e.1.s && decide (e.1.i < ((getE l e.1.s).tx.outs.length : Int))) := rfl
          cases hh : hasE l e.1.s with
          | true =>
            rw [hh, Bool.true_and] at hout
            rw [hout]
            repeat' (first|(refine zE (d' := 26) (vs := c3.cs) (fun _=>rfl) rfl rfl rfl (fun b28 w28 x28 a28 r28 hb28=>?_))|(refine st_fixV (d := some 160) (.int .i64 e.1.i) rfl (congrArg (fun n => some (Value.int .i64 n)) (IntWalk.i64_in _ hq64)) ?_)|(refine zG (d := some 164) (E := outR) (M := []) (l := (getE l e.1.s).tx.outs) rfl (SlR.ext p82 (by exact fx)) ?_)|(refine st_fixV (d := some 167) (.bool false) rfl (congrArg (fun b => some (Value.bool (!b))) (beq_self_eq_true (decide (e.1.i < ((getE l e.1.s).tx.outs.length : Int))))) ?_)|(first|refine go1 ?_|refine zg (fun _ _=>?_)|refine zi (fun _ _=>?_)))
            exact ⟨k + 1, ⟨rfl, rfl, rfl, rfl, rfl, rfl, rfl, rfl, rfl, rfl, trivial⟩, ⟨(x1321 ()).trans (by exact fx), by omega⟩, by omega⟩
          | false =>
            rw [hh, Bool.false_and] at hout
            rw [hout]
            repeat' (first|(refine zE (d' := 26) (vs := c3.cs) (fun _=>rfl) rfl rfl rfl (fun b28 w28 x28 a28 r28 hb28=>?_))|(first|refine go1 ?_|refine zg (fun _ _=>?_)|refine zi (fun _ _=>?_)))
            exact ⟨k + 1, ⟨rfl, rfl, rfl, rfl, rfl, rfl, rfl, rfl, rfl, rfl, trivial⟩, ⟨(x1321 ()).trans (by exact fx), by omega⟩, by omega⟩
    · refine zC (d := some 169) rfl (wakes17_spec _) ?_
      rintro _ w40 ⟨rfl, x40⟩
      repeat (first|refine go1 ?_|refine zg (fun _ _=>?_)|refine zi (fun _ _=>?_))
      exact x_ret rfl ⟨rfl, ((x013 ()).trans x14).trans x40⟩
end Go.Proofs.YtcnhbkaclgdehaaGreat
end
