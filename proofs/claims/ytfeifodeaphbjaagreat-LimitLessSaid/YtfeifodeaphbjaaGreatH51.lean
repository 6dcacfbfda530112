/- The walk of LimitFits. Plain: where an entry is, and what it is. Plain: what fits, fits also once an entry is gone on which nothing hangs. -/
import Derived.Test.YtfeifodeaphbjaaGreatH50
set_option linter.unusedVariables false
set_option linter.unusedSimpArgs false
section
namespace Go.Proofs.YtfeifodeaphbjaaGreat
open Go Go.K
theorem SlR.ofAt {α : Type} {E : R α} {M : List Nat} {w : World} {b n : Nat} {t : TypeId} {arr : List Value} {l : List α} (css : List (Vec E.k)) (h : At w b (.cells arr.toArray t (0, 0))) (e : (vecE E.k E.pos).flat css = arr) (ha : E.all (b :: M) w css l) (hb : b ∉ M) (hn : css.length = n) : SlR E M w (.slice (some ⟨b, 0, none⟩) n n) l := by
  subst hn
  have o : OwnR E t 0 M w (.slice (some ⟨b, 0, none⟩) css.length css.length) l := ⟨css, .inr ⟨b, css.length, [], rfl, Nat.zero_le _, by rw [e, List.append_nil]; exact h, by rw [List.append_nil, Enc.flat_length]⟩, ha⟩
  exact o.sl fun b' hb' h' => by
    simp [blkOf] at h'
    subst h'; exact hb hb'
def u8vec (x : UInt8) (M : List Nat) (w : World) : Vec u8R.k := R.vec (show u8R.rel M w [u8V x] x from rfl)
theorem u8new {M : List Nat} {w : World} {b : Nat} {x : UInt8} (h : At w b (.cells [u8V x].toArray T.uint8 (0, 0))) (hb : b ∉ M) : SlR u8R M w (.slice (some ⟨b, 0, none⟩) 1 1) [x] :=
  SlR.ofAt (E := u8R) [u8vec x M w] h rfl (.cons rfl .nil) hb rfl
theorem u8new2 {M : List Nat} {w : World} {b : Nat} {x y : UInt8} (h : At w b (.cells [u8V x, u8V y].toArray T.uint8 (0, 0))) (hb : b ∉ M) : SlR u8R M w (.slice (some ⟨b, 0, none⟩) 2 2) [x, y] :=
  SlR.ofAt (E := u8R) [u8vec x M w, u8vec y M w] h rfl (.cons rfl (.cons rfl .nil)) hb rfl
theorem add1 (x : UInt8) : ∃ k : UInt8, binVal .add (u8V x) (.int .u8 1) = some (u8V k) := ⟨_, congrArg some (u8_of (wrap8_lt _))⟩
attribute [local irreducible] regK codeK retK KOp.wp K.Spec u32 leS vnS str zero32 sha2 encT idT sizeT checkT grantB idN stepR workL reachE findI dropG addG aboveL belowL idsOf feeD sizeD szOf feeOf fitsL

set_option maxHeartbeats 2000000 in
theorem fits_law (last long : UInt8) {cs : List Value} {z : BuildG} (w : World) (hz : buildR.rel [] w cs z) :
    K.Spec Tryz.prog F.kedgelaw15_LimitFits [.agg cs.toArray, u8V last, u8V long] w fun r w' => r = .bool true ∧ Ext w w' := by
  have hz0 := hz
  obtain ⟨ov, tv, lv, rfl, h1, h2, h3⟩ := hz
  obtain ⟨nx, hnx⟩ := add1 last
  refine s_kedgelaw15_LimitFits rfl ?_
  unfold k_kedgelaw15_LimitFits
  refine ox ?_
  repeat' (first|(refine st_bin (d := some 26) (v := u8V nx) rfl rfl hnx ?_)|(refine st_build (d := some 19) (cs := smallCs ⟨[last], 0, 0, 0, 200, 0⟩ (.slice (some ⟨b18, 0, none⟩) 1 1)) rfl ?_)|(refine st_build (d := some 23) (cs := smallCs ⟨[last], 0, 0, 0, 201, long⟩ (.slice (some ⟨b21, 0, none⟩) 1 1)) rfl ?_)|(refine st_build (d := some 28) (cs := smallCs ⟨[last, nx], 4, 0, 0, 202, 0⟩ (.slice (some ⟨b27, 0, none⟩) 2 2)) rfl ?_)|(refine zI (d := some 29) (cs := smallCs ⟨[last], 0, 0, 0, 200, 0⟩ (.slice (some ⟨b18, 0, none⟩) 1 1) ++ (smallCs ⟨[last], 0, 0, 0, 201, long⟩ (.slice (some ⟨b21, 0, none⟩) 1 1) ++ smallCs ⟨[last, nx], 4, 0, 0, 202, 0⟩ (.slice (some ⟨b27, 0, none⟩) 2 2))) rfl (fun b29 w29 x29 a29 hb29 => ?_))|(refine zI (d := some 18) (cs := [u8V last]) rfl (fun b18 w18 x18 a18 hb18 => ?_))|(refine zI (d := some 21) (cs := [u8V last]) rfl (fun b21 w21 x21 a21 hb21 => ?_))|(refine zI (d := some 27) (cs := [u8V last, u8V nx]) rfl (fun b27 w27 x27 a27 hb27 => ?_))|(first|refine go1 ?_|refine zg (fun _ _=>?_)|refine zi (fun _ _=>?_))|(refine zD rfl rfl (fun b3 w3 x3 a3 (r3 : Row w3 ⟨b3, 0, none⟩ (bldCs z ov tv lv)) hb3=>?_))|(refine zC rfl (built_spec false _ (R.ext hz0 (by exact fx))) ?_; rintro _ w4 ⟨g, M, u, l, rfl, G4, u4, hl, x4⟩))
  have hM4 := G4.lt
  have s4 := x4.size
  have s18 := x18.size
  have s21 := x21.size
  have s27 := x27.size
  have s29 := x29.size
  have l18 := a18.lt
  have l21 := a21.lt
  have l27 := a27.lt
  have l29 := a29.lt
  obtain ⟨L, hL, hLf, hS⟩ : ∃ L : List Small, L.length = 3 ∧ (∀ y ∈ L, y.frm.length ≤ 2) ∧ SlR smallR M w29 (.slice (some ⟨b29, 0, none⟩) 3 3) L := by
    have n18 : b18 ∉ b29 :: M := fun h => by
      rcases List.mem_cons.1 h with h | h
      · omega
      · have := hM4 _ h; omega
    have n21 : b21 ∉ b29 :: M := fun h => by
      rcases List.mem_cons.1 h with h | h
      · omega
      · have := hM4 _ h; omega
    have n27 : b27 ∉ b29 :: M := fun h => by
      rcases List.mem_cons.1 h with h | h
      · omega
      · have := hM4 _ h; omega
    have n29 : b29 ∉ M := fun h => by have := hM4 _ h; omega
    have g1 : smallR.rel (b29 :: M) w29 (smallCs ⟨[last], 0, 0, 0, 200, 0⟩ (.slice (some ⟨b18, 0, none⟩) 1 1)) ⟨[last], 0, 0, 0, 200, 0⟩ := ⟨_, rfl, u8new (At.ext (x21.trans (x27.trans x29)) a18) n18, is64_0⟩
    have g2 : smallR.rel (b29 :: M) w29 (smallCs ⟨[last], 0, 0, 0, 201, long⟩ (.slice (some ⟨b21, 0, none⟩) 1 1)) ⟨[last], 0, 0, 0, 201, long⟩ := ⟨_, rfl, u8new (At.ext (x27.trans x29) a21) n21, is64_0⟩
    have g3 : smallR.rel (b29 :: M) w29 (smallCs ⟨[last, nx], 4, 0, 0, 202, 0⟩ (.slice (some ⟨b27, 0, none⟩) 2 2)) ⟨[last, nx], 4, 0, 0, 202, 0⟩ := ⟨_, rfl, u8new2 (At.ext x29 a27) n27, is64_0⟩
    exact ⟨[⟨[last], 0, 0, 0, 200, 0⟩, ⟨[last], 0, 0, 0, 201, long⟩, ⟨[last, nx], 4, 0, 0, 202, 0⟩], rfl, by simp, SlR.ofAt [R.vec g1, R.vec g2, R.vec g3] a29 rfl (.cons g1 (.cons g2 (.cons g3 .nil))) n29 rfl⟩
  have x429 : Ext w4 w29 := x18.trans (x21.trans (x27.trans x29))
  have x029 : Ext w w29 := x3.trans (x4.trans x429)
  have G29 := G4.ext x429
  have u29 := u4.ext x429
  have hM29 : ∀ b ∈ M, b < w29.heap.size := fun b hb => by have := hM4 b hb; omega
  have hid32 : ∀ x ∈ l, x.id.size = 32 := fun x hx => by rw [(G29.ok x hx).id]; exact idT_size _
  clear a18 a21 a27 a29 x18 x21 x27 x29 x3 x4 G4 u4 r3 a3 h1 h2 h3 hz0 hM4 x429
  repeat' (first|(first|refine go1 ?_|refine zg (fun _ _=>?_)|refine zi (fun _ _=>?_))|(refine zL rfl (fun h => ?_) (fun h => ?_))|(refine c_loopV (fun (i : Nat) w' => Ext w29 w' ∧ i ≤ 3) (fun i => [(7, .pointer (some ⟨g, 0, none⟩)), (8, u), (29, .slice (some ⟨b29, 0, none⟩) 3 3), (30, .int .i64 3), (31, .int .i64 i)]) (fun i => 3 - i) 0 ⟨rfl, rfl, rfl, rfl, rfl, trivial⟩ ⟨Ext.refl _, by omega⟩ ?_; rintro i ρ w5 ⟨x5, hi⟩))
  · have hil : i < L.length := by omega
    refine st_elemR (d := some 33) (E := smallR) (M := M) rfl rfl (n := i) (l := L) (hS.ext x5) rfl hil (fun ad cs r5 he => ?_)
    have hone := List.all_eq_true.2 (smallR.one he)
    have hfr := hLf _ (List.getElem_mem hil)
    generalize L[i] = y at *
    have he0 := he
    obtain ⟨fv, rfl, -⟩ := he
    repeat' (first|(first|refine go1 ?_|refine zg (fun _ _=>?_)|refine zi (fun _ _=>?_))|(refine zE (d' := 10) (fun _=>rfl) rfl rfl hone (fun b10 w10 x10 (a10 : At w10 b10 (.cells (smallCs y fv).toArray T.kedgeref14_Small (0, 0))) (r10 : Row w10 ⟨b10, 0, none⟩ (smallCs y fv)) hb10=>?_))|(refine zC rfl (make_spec (M := M) (l := l) (cs := smallCs y fv) (z := y) _ (u29.ext (by exact fx)) (R.ext he0 (by exact fx)) (by omega) (by omega) hid32 (fun b hb => Nat.lt_of_lt_of_le (hM29 b hb) (Ext.size (by exact fx)))) ?_; rintro _ w11 ⟨ds, t, rfl, ho, hmd, x11⟩))
    have hsm := hmd.sm
    have s5 := x5.size
    have s10 := x10.size
    have t11 : txR.rel M w11 ds t := txO.rel ho (fun b hb => by have := hM29 b hb; omega)
    have o1 := ho.one
    obtain ⟨iv, ov2, rfl, -⟩ := ho
    repeat' (first|(refine st_bin (d := some 44) (v := .bool false) rfl rfl (congrArg (fun b => some (Value.bool b)) (by simp)) ?_)|(first|refine go1 ?_|refine zg (fun _ _=>?_)|refine zi (fun _ _=>?_))|(refine zB ?_ ?_)|(refine zE (d' := 11) (fun _=>rfl) rfl rfl o1 (fun b12 w12 x12 (a12 : At w12 b12 (.cells (txCs t iv ov2).toArray T.api_Tx (0, 0))) (r12 : Row w12 ⟨b12, 0, none⟩ (txCs t iv ov2)) hb12=>?_))|(refine zC rfl (fits_spec (M := M) (N := M) (l := l) (cs := txCs t iv ov2) (t := t) _ (G29.r.ext (by exact fx)) (fun b hb => Nat.lt_of_lt_of_le (hM29 b hb) (Ext.size (by exact fx))) (R.ext t11 (by exact fx)) hsm (by omega)) ?_; rintro _ w13 ⟨rfl, x13⟩)|(refine zC rfl (rfits_spec (M := M) (l := l) (cs := txCs t iv ov2) (t := t) _ (u29.ext (by exact fx)) (R.ext t11 (by exact fx)) hsm (by omega) G29.r.ok G29.r.nodup) ?_; rintro _ w14 ⟨rfl, x14⟩))
    all_goals exact ⟨i + 1, ⟨rfl, rfl, rfl, rfl, rfl, trivial⟩, ⟨by exact fx, by omega⟩, by omega⟩
  · repeat' (first|(first|refine go1 ?_|refine zg (fun _ _=>?_)|refine zi (fun _ _=>?_))|(refine zC rfl (wakes15_spec _) ?_; rintro _ w6 ⟨rfl, x6⟩))
    exact x_ret rfl ⟨rfl, by exact fx⟩
end Go.Proofs.YtfeifodeaphbjaaGreat
end
section
namespace Go.K
open Go
theorem idx_some {α : Type} {p : α → Bool} {l : List α} (h : 0 ≤ idxOf p l) : ∃ h2 : (idxOf p l).toNat < l.length, l.find? p = some l[(idxOf p l).toNat] := by
  unfold idxOf at h ⊢
  cases hq : l.findIdx? p with
  | none => rw [hq] at h; exact absurd h (by decide)
  | some i =>
    obtain ⟨hi, hp, hn⟩ := List.findIdx?_eq_some_iff_getElem.1 hq
    exact ⟨hi, List.find?_eq_some_iff_getElem.2 ⟨hp, i, hi, rfl, fun j hj => by simpa using hn j hj⟩⟩
theorem idx_none {α : Type} {p : α → Bool} {l : List α} (h : idxOf p l < 0) : l.find? p = none := by
  have h2 := @idxOf_any α p l
  rw [decide_eq_false (by omega)] at h2
  refine List.find?_eq_none.2 fun x hx h3 => ?_
  rw [List.any_eq_true.2 ⟨x, hx, h3⟩] at h2; cases h2
end Go.K
end
section
namespace Go.K
open Go
def upI (q j : Nat) : Nat := if j < q then j else j + 1
def dnI (q i : Nat) : Nat := if i < q then i else i - 1
theorem upI_dn {q i : Nat} (h : i ≠ q) : upI q (dnI q i) = i := by unfold upI dnI; split <;> (try split) <;> omega
theorem upI_lt {q j n : Nat} (h : j < n - 1) : upI q j < n := by unfold upI; split <;> omega
theorem dnI_lt {q i n : Nat} (hi : i < n) (hq : q < n) (h : i ≠ q) : dnI q i < n - 1 := by unfold dnI; split <;> omega
/-- Without one from which nothing else is reached, all else is reached as before. -/
theorem reach_less {base base' : Nat → Bool} {edge edge' : Nat → Nat → Bool} {n q : Nat} (hq : q < n) (hb : ∀ j, j < n - 1 → base' j = base (upI q j)) (he : ∀ k j, k < n - 1 → j < n - 1 → edge' k j = edge (upI q k) (upI q j))
    (ho : ∀ i, i < n → i ≠ q → stepR base edge n n q = true → edge q i = false) {j : Nat} (hj : j < n - 1) : stepR base' edge' (n - 1) (n - 1) j = stepR base edge n n (upI q j) := by
  rw [Bool.eq_iff_iff]
  constructor
  · intro h
    refine stepR_least (p := fun j => stepR base edge n n (upI q j) = true) (fun i hi h => ?_) (fun k i hk hi h1 h2 => ?_) _ _ hj h
    · exact stepR_base (upI_lt hi) (by rw [← hb i hi]; exact h)
    · exact stepR_closed (upI_lt hi) (upI_lt hk) h1 (by rw [← he k i hk hi]; exact h2)
  · intro h
    have := stepR_least (base := base) (edge := edge) (n := n) (p := fun i => stepR base edge n n i = true ∧ (i ≠ q → stepR base' edge' (n - 1) (n - 1) (dnI q i) = true)) (fun i hi h => ⟨stepR_base hi h, fun hne => ?_⟩) (fun k i hk hi h1 h2 => ⟨stepR_closed hi hk h1.1 h2, fun hne => ?_⟩) _ _ (upI_lt hj) h
    · have h1 := this.2 (by unfold upI; split <;> omega)
      have e : dnI q (upI q j) = j := by unfold dnI upI; split <;> (try split) <;> omega
      rwa [e] at h1
    · have hl := dnI_lt hi hq hne
      exact stepR_base hl (by rw [hb _ hl, upI_dn hne]; exact h)
    · by_cases hkq : k = q
      · subst hkq
        rw [ho i hi hne h1.1] at h2; cases h2
      · have hl := dnI_lt hi hq hne
        have hl2 := dnI_lt hk hq hkq
        exact stepR_closed hl hl2 (h1.2 hkq) (by rw [he _ _ hl2 hl, upI_dn hne, upI_dn hkq]; exact h2)
theorem reachL_less {base base' : Nat → Bool} {edge edge' : Nat → Nat → Bool} {n q : Nat} (hq : q < n) (hb : ∀ j, j < n - 1 → base' j = base (upI q j)) (he : ∀ k j, k < n - 1 → j < n - 1 → edge' k j = edge (upI q k) (upI q j))
    (ho : ∀ i, i < n → i ≠ q → stepR base edge n n q = true → edge q i = false) : reachL base' edge' (n - 1) = (reachL base edge n).eraseIdx q := by
  apply List.ext_getElem
  · rw [reachL_length, List.length_eraseIdx, reachL_length, if_pos hq]
  · intro j h1 h2
    rw [reachL_length] at h1
    have e := reach_less hq hb he ho h1
    rw [List.getElem_eraseIdx]
    simp only [reachL, List.getElem_map, List.getElem_range]
    rw [e]
    unfold upI
    split <;> rfl
theorem cntB_erase : ∀ {m : List Bool} {q : Nat} (h : q < m.length), cntB (m.eraseIdx q) = cntB m - (if m[q] then 1 else 0)
  | b :: m, 0, _ => by simp only [List.eraseIdx_cons_zero, List.getElem_cons_zero, cntB]; omega
  | b :: m, q + 1, h => by
    have := cntB_erase (m := m) (q := q) (by simpa using h)
    simp only [List.eraseIdx_cons_succ, List.getElem_cons_succ, cntB]; omega
theorem szOf_erase : ∀ {l : List Ent} {m : List Bool} {q : Nat} (hl : q < l.length) (h : q < m.length), szOf (l.eraseIdx q) (m.eraseIdx q) = szOf l m - (if m[q] then l[q].size else 0)
  | x :: l, b :: m, 0, _, _ => by simp only [List.eraseIdx_cons_zero, List.getElem_cons_zero, szOf]; omega
  | x :: l, b :: m, q + 1, hl, h => by
    have := szOf_erase (l := l) (m := m) (q := q) (by simpa using hl) (by simpa using h)
    simp only [List.eraseIdx_cons_succ, List.getElem_cons_succ, szOf]; omega
theorem idsOf_erase : ∀ {l : List Ent} {m : List Bool} {q : Nat} (_ : q < l.length) (h : q < m.length), m[q] = false → idsOf (l.eraseIdx q) (m.eraseIdx q) = idsOf l m
  | x :: l, b :: m, 0, _, _, hb => by simp only [List.getElem_cons_zero] at hb; subst hb; simp [idsOf]
  | x :: l, b :: m, q + 1, hl, h, hb => by
    have := idsOf_erase (l := l) (m := m) (q := q) (by simpa using hl) (by simpa using h) (by simpa using hb)
    simp only [List.eraseIdx_cons_succ, idsOf, this]
theorem entD_erase {l : List Ent} {q j : Nat} (h : j < l.length - 1) : entD (l.eraseIdx q) j = entD l (upI q j) := by
  unfold entD
  rw [List.getD_eq_getElem?_getD, List.getD_eq_getElem?_getD, List.getElem?_eraseIdx]
  unfold upI
  split <;> rfl
theorem findI_iff {l : List Ent} (hn : (l.map (·.id)).Nodup) {j : Nat} (hj : j < l.length) (s : ByteArray) : ((j : Int) = findI l s) ↔ l[j].id = s := by
  constructor
  · intro h
    have h0 : 0 ≤ findI l s := by omega
    obtain ⟨h2, h3⟩ := idx_some (p := fun x : Ent => decide (x.id = s)) (l := l) h0
    have h4 := of_decide_eq_true (List.find?_some (p := fun x : Ent => decide (x.id = s)) h3)
    have e : (findI l s).toNat = j := by omega
    have e2 : l[(findI l s).toNat]'h2 = l[j] := by congr 1
    rw [← h4, ← e2]; rfl
  · rintro rfl
    exact (findI_at hn hj).symm
theorem fits_less {l : List Ent} {t : Tx} {q : Nat} (hn : (l.map (·.id)).Nodup) (hs : ∀ x ∈ l, 0 ≤ x.size) (hq : q < l.length) (ha : hangs t l[q] = false) (hb : (idsOf l (belowL l l[q].id)).length ≤ 1) (h : fitsL l t = 0) : fitsL (l.eraseIdx q) t = 0 := by
  have hn' : ((l.eraseIdx q).map (·.id)).Nodup := ((List.eraseIdx_sublist l q).map _).nodup hn
  have hlen : (l.eraseIdx q).length = l.length - 1 := by rw [List.length_eraseIdx, if_pos hq]
  -- nothing else hangs on it
  have hno : ∀ i, i < l.length → i ≠ q → hangE l i q = false := by
    intro i hi hne
    by_cases e : hangE l i q = true
    · have h1 : belowS l l[q].id q = true := (belowS_iff hn hq hq).2 (.inl rfl)
      have h2 : belowS l l[q].id i = true := (belowS_iff hn hi hq).2 (.inr (.one hi hq e))
      have g1 : l[q].id ∈ idsOf l (belowL l l[q].id) := (mem_reach hn hq).2 h1
      have g2 : l[i].id ∈ idsOf l (belowL l l[q].id) := (mem_reach hn hi).2 h2
      match hL : idsOf l (belowL l l[q].id), hb with
      | [], _ => rw [hL] at g1; cases g1
      | [a], _ =>
        rw [hL, List.mem_singleton] at g1 g2
        have := entD_inj hn hi hq (by rw [entD_get hi, entD_get hq, g1, g2])
        exact absurd this hne
    · simpa using e
  have haq : aboveS l t q = false := by
    by_cases e : aboveS l t q = true
    · have := stepR_least (p := fun i => i ≠ q) (fun i hi h1 e => by subst e; rw [entD_get hi, ha] at h1; cases h1) (fun k i hk hi h1 h2 e => by subst e; rw [hno k hk h1] at h2; cases h2) _ _ hq e
      exact absurd rfl this
    · simpa using e
  have hA : aboveL (l.eraseIdx q) t = (aboveL l t).eraseIdx q := by
    unfold aboveL
    rw [hlen]
    refine reachL_less hq (fun j hj => ?_) (fun k j hk hj => ?_) (fun i hi hne h1 => ?_)
    · rw [entD_erase hj]
    · unfold hangE; rw [entD_erase hj, entD_erase hk]
    · unfold aboveS at haq; rw [haq] at h1; cases h1
  have hal : (aboveL l t).length = l.length := by unfold aboveL; rw [reachL_length]
  have hAq : (aboveL l t)[q]'(by omega) = false := by
    unfold aboveL reachL
    rw [List.getElem_map, List.getElem_range]; exact haq
  have hids : idsOf (l.eraseIdx q) (aboveL (l.eraseIdx q) t) = idsOf l (aboveL l t) := by rw [hA]; exact idsOf_erase hq (by omega) hAq
  have hw1 : ∀ z c s, wiP (l.eraseIdx q) (idsOf (l.eraseIdx q) (aboveL (l.eraseIdx q) t)) z c s = wiP l (idsOf l (aboveL l t)) z c s := by
    intro z c s
    rw [wiP_mask hn' (by unfold aboveL; rw [reachL_length]), wiP_mask hn hal.symm, hA, cntB_erase (by omega), szOf_erase hq (by omega), hAq]
    simp
  have hw2 : ∀ z c s, hoP l (idsOf l (aboveL l t)) z c s = true → hoP (l.eraseIdx q) (idsOf (l.eraseIdx q) (aboveL (l.eraseIdx q) t)) z c s = true := by
    intro z c s hh
    rw [hids]
    unfold hoP at hh ⊢
    rw [List.all_eq_true] at hh ⊢
    intro y hy
    have h1 := hh y hy
    obtain ⟨i, hi, h2, h3, rfl⟩ := mem_idsOf hy
    have hiq : i ≠ q := fun e => by subst e; rw [hAq] at h3; cases h3
    have hB : belowL (l.eraseIdx q) l[i].id = (belowL l l[i].id).eraseIdx q := by
      unfold belowL
      rw [hlen]
      refine reachL_less hq (fun j hj => ?_) (fun k j hk hj => ?_) (fun k hk hne h1 => hno k hk hne)
      · have hu := upI_lt (q := q) hj
        have e1 := findI_iff hn' (j := j) (by omega) l[i].id
        have e2 := findI_iff hn hu l[i].id
        have e3 := entD_erase (l := l) (q := q) hj
        rw [entD_get (by omega), entD_get hu] at e3
        rw [e3] at e1
        exact decide_eq_decide.2 (e1.trans e2.symm)
      · unfold hangE; rw [entD_erase hj, entD_erase hk]
    have hbl : (belowL l l[i].id).length = l.length := by unfold belowL; rw [reachL_length]
    rw [wiP_mask hn hbl.symm] at h1
    rw [wiP_mask hn' (by unfold belowL; rw [reachL_length]), hB, cntB_erase (by omega), szOf_erase hq (by omega)]
    have hz := hs l[q] (List.getElem_mem hq)
    rw [Bool.and_eq_true, decide_eq_true_eq, decide_eq_true_eq] at h1 ⊢
    split <;> omega
  unfold fitsL at h ⊢
  rw [hw1]
  split at h
  · rename_i hc; rw [if_pos hc]; exact h
  · rename_i hc; rw [if_neg hc]
    split at h
    · cases h
    · rename_i hw; rw [if_neg hw]
      split at h
      · rename_i h5; rw [if_pos (hw2 _ _ _ h5)]
      · split at h
        · rename_i h6
          split
          · rfl
          · rw [if_pos ⟨by rw [hids]; exact h6.1, h6.2.1, hw2 _ _ _ h6.2.2⟩]
        · cases h
end Go.K
end
