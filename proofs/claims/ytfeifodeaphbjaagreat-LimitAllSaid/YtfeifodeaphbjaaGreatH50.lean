/- Plain: the chain of transactions fits, and one more doesn't. Contracts: what the document fixes of limits. -/
import Derived.Test.YtfeifodeaphbjaaGreatH49
set_option linter.unusedVariables false
set_option linter.unusedSimpArgs false
section
namespace Go.K
open Go
def I (k : Nat) : ByteArray := str (tab.getD k [])
theorem tab_mem {k : Nat} (h : k < 26) : tab.getD k [] ∈ tab := by
  have hl : k < tab.length := by rw [tab_len]; exact h
  rw [List.getD_eq_getElem?_getD, List.getElem?_eq_getElem hl]
  exact List.getElem_mem hl
theorem I_size {k : Nat} (h : k < 26) : (I k).size = 32 := by
  unfold I
  rw [str_size]; exact tab_size _ (tab_mem h)
theorem str_inj {l m : List UInt8} (h : str l = str m) : l = m := by
  have := congrArg (fun s : ByteArray => s.data.toList) h
  simpa [str] using this
theorem I_inj {j k : Nat} (hj : j < 26) (hk : k < 26) (h : I j = I k) : j = k := by
  have h1 := str_inj h
  have lj : j < tab.length := by rw [tab_len]; exact hj
  have lk : k < tab.length := by rw [tab_len]; exact hk
  rw [List.getD_eq_getElem?_getD, List.getElem?_eq_getElem lj, List.getD_eq_getElem?_getD, List.getElem?_eq_getElem lk] at h1
  exact (List.getElem_inj tab_nodup).1 h1
theorem sumOk_zero (n : Nat) : sumOk 0 (List.replicate n 0) = some 0 := by
  induction n with
  | zero => rfl
  | succ n ih => rw [List.replicate_succ, sumOk, if_pos (by decide)]; exact ih
theorem nx_check {id s : ByteArray} {i m q n : Nat} (h : id.size = 32) (h1 : 1 ≤ n) (h2 : n ≤ 256) (hs : s.size ≤ 40) : checkT (nxG id i m q n s) = 0 := by
  have a1 : countsB (nxG id i m q n s) = true := by
    unfold countsB nxG
    simp only [List.length_cons, List.length_nil, List.length_replicate, List.any_cons, List.any_nil, Bool.or_false]
    rw [decide_eq_true (by omega), decide_eq_true (by omega)]; rfl
  have a2 : longB (nxG id i m q n s) = false := by
    unfold longB nxG
    simp only [List.any_cons, List.any_nil, Bool.or_false]
    have e : (List.replicate n (⟨0, s⟩ : TOut)).any longOut = false := by
      rw [List.any_eq_false]
      intro x hx
      rw [List.eq_of_mem_replicate hx]
      unfold longOut
      simp; omega
    rw [e]; rfl
  have a3 : formedT (nxG id i m q n s) = true := by
    unfold formedT nxG
    simp only [List.any_cons, List.any_nil, Bool.or_false]
    unfold badIn
    simp [h]
  have a4 : twiceB (nxG id i m q n s) = false := rfl
  have a5 : sumE (values (nxG id i m q n s)) = 0 := by
    unfold sumE values nxG
    simp only [List.map_replicate]
    rw [sumOk_zero]; rfl
  unfold checkT
  rw [a1, a2, a3, a4, a5]; rfl
theorem nx_grant {id s : ByteArray} {i m q n : Nat} (hi : i < 4294967295) : grantB (nxG id i m q n s) = false := by
  unfold grantB nxG isBase baseP
  simp
  intro _; omega
theorem nx_size {L s : List UInt8} {i m q n : Nat} (hi : i < 4294967296) (hm : m < 4294967296) (hq : q < 4294967296) (hn : n < 65536) (hs : s.length < 65536) : sizeT (nxG (str L) i m q n (str s)) = (encU L i m q n s).length := by
  have hw : witB (nxG (str L) i m q n (str s)) = false := rfl
  unfold sizeT weightT
  rw [hw, encT_nx hi hm hq hn hs, str_size]
  omega
theorem encU_length {L s : List UInt8} {i m q n : Nat} : (encU L i m q n s).length = 18 + L.length + (vnL n).length + n * (8 + ((vnL s.length).length + s.length)) := by
  unfold encU
  simp [leL_length]
  omega
theorem idT_I {k : Nat} (h : k < 25) : idT (nxT (I k) 0 k 3) = I (k + 1) := idT_nx (by decide) (by omega) (by decide) (by decide) (by decide) (tab_step k h)
theorem sizeT_I {k j : Nat} (h : k < 26) (hj : j < 100) : sizeT (nxT (I k) 0 j 3) = 78 := by
  have h1 : (tab.getD k []).length = 32 := tab_size _ (tab_mem h)
  have := nx_size (L := tab.getD k []) (s := []) (i := 0) (m := j) (q := 4294967293) (n := 3) (by decide) (by omega) (by decide) (by decide) (by decide)
  rw [encU_length, h1] at this
  exact this
def entI (k : Nat) : Ent := ⟨nxT (I k) 0 k 3, I (k + 1), 1, 78⟩
def chainE (n : Nat) : List Ent := (List.range n).map entI
theorem chainE_len (n : Nat) : (chainE n).length = n := by simp [chainE]
theorem chainE_succ (n : Nat) : chainE (n + 1) = chainE n ++ [entI n] := by simp [chainE, List.range_succ]
theorem chainE_get {n k : Nat} (h : k < (chainE n).length) : (chainE n)[k] = entI k := by simp [chainE]
theorem mem_chainE {n : Nat} {x : Ent} (h : x ∈ chainE n) : ∃ k, k < n ∧ x = entI k := by
  simp only [chainE, List.mem_map, List.mem_range] at h
  obtain ⟨k, h1, rfl⟩ := h
  exact ⟨k, h1, rfl⟩
theorem addG_chain {i : Nat} (h : i < 25) : addG (chainE i) (nxT (I i) 0 i 3) 1 = (chainE (i + 1), 0) := by
  have h1 : (chainE i).any (fun x => decide (x.id = idT (nxT (I i) 0 i 3))) = false := by
    rw [List.any_eq_false]
    intro x hx
    obtain ⟨k, hk, rfl⟩ := mem_chainE hx
    simp only [entI, decide_eq_true_eq]
    rw [idT_I h]
    intro e
    have := I_inj (j := k + 1) (k := i + 1) (by omega) (by omega) (of_decide_eq_true e)
    omega
  have h2 : (nxT (I i) 0 i 3).ins.any (fun k => (chainE i).any fun x => spends x k.p) = false := by
    unfold nxT nxG
    simp only [List.any_cons, List.any_nil, Bool.or_false]
    rw [List.any_eq_false]
    intro x hx
    obtain ⟨k, hk, rfl⟩ := mem_chainE hx
    unfold spends entI nxT nxG
    simp only [List.any_cons, List.any_nil, Bool.or_false, decide_eq_true_eq, Pt.mk.injEq, and_true]
    intro e
    have := I_inj (j := k) (k := i) (by omega) (by omega) e
    omega
  have hc : checkT (nxT (I i) 0 i 3) = 0 := nx_check (I_size (by omega)) (by decide) (by decide) (by decide)
  have hg : grantB (nxT (I i) 0 i 3) = false := nx_grant (by decide)
  unfold addG
  rw [if_neg (by rw [hc]; simp), if_neg (by rw [hg]; simp), if_neg (by decide), if_neg (by rw [h1]; simp), if_neg (by rw [h2]; simp), chainE_succ, idT_I h, sizeT_I (by omega) (by omega)]
  rfl
theorem size_small {l : List Ent} (hs : ∀ x ∈ l, 0 ≤ x.size ∧ x.size ≤ 300) (ids : List ByteArray) : sizeD l ids ≤ 300 * ids.length := by
  have h1 := sum_bound (c := 300) (fun s => show 0 ≤ (getG l s).size ∧ (getG l s).size ≤ 300 from by
    unfold getG
    cases h : l.find? fun x => decide (x.id = s) with
    | none => exact ⟨by decide, by decide⟩
    | some y => exact hs y (List.mem_of_find?_eq_some h)) (dist ids)
  have h3 := dist_length ids
  unfold sizeD
  omega
theorem fits_small {l : List Ent} {t : Tx} (hc : checkT t = 0) (hn : l.length ≤ 24) (hs : ∀ x ∈ l, 0 ≤ x.size ∧ x.size ≤ 300) (ht : sizeT t ≤ 300) : fitsL l t = 0 := by
  have w : ∀ m, wiP l (idsOf l m) (sizeT t : Nat) 25 101000 = true := fun m => by
    have h1 := idsOf_length l m
    have h2 := size_small hs (idsOf l m)
    unfold wiP
    rw [decide_eq_true (by omega), decide_eq_true (by omega)]; rfl
  unfold fitsL
  rw [if_neg (by rw [hc]; simp), if_neg (by rw [w]; simp), if_pos]
  unfold hoP
  exact List.all_eq_true.2 fun s _ => w _
theorem cntB_all : ∀ (m : List Bool), (∀ b ∈ m, b = true) → cntB m = m.length
  | [], _ => rfl
  | b :: m, h => by
    have h1 := cntB_all m fun c hc => h c (by simp [hc])
    have h2 := h b (by simp)
    subst h2
    rw [cntB, h1, List.length_cons]; simp; omega
theorem fits_chain {i : Nat} (h : i < 25) : fitsL (chainE i) (nxT (I i) 0 i 3) = 0 :=
  fits_small (nx_check (I_size (by omega)) (by decide) (by decide) (by decide)) (by rw [chainE_len]; omega) (fun x hx => by
    obtain ⟨k, hk, rfl⟩ := mem_chainE hx
    exact ⟨show (0 : Int) ≤ 78 by decide, show (78 : Int) ≤ 300 by decide⟩) (by rw [sizeT_I (by omega) (by omega)]; decide)
theorem fits_full : fitsL (chainE 25) (nxT (I 25) 0 99 3) = 14 := by
  have hl := chainE_len 25
  have hc : checkT (nxT (I 25) 0 99 3) = 0 := nx_check (I_size (by decide)) (by decide) (by decide) (by decide)
  have st : ∀ d k, k + d = 24 → aboveS (chainE 25) (nxT (I 25) 0 99 3) k = true := by
    intro d
    induction d with
    | zero =>
      intro k hk
      obtain rfl : k = 24 := by omega
      refine stepR_base (by omega) ?_
      rw [entD_get (by omega), chainE_get]
      unfold hangs entI nxT nxG
      simp
    | succ d ih =>
      intro k hk
      refine stepR_closed (k := k + 1) (by omega) (by omega) (ih (k + 1) (by omega)) ?_
      unfold hangE
      rw [entD_get (by omega), entD_get (by omega), chainE_get, chainE_get]
      unfold hangs entI nxT nxG
      simp
  have ha : ∀ b ∈ aboveL (chainE 25) (nxT (I 25) 0 99 3), b = true := fun b hb => by
    unfold aboveL reachL at hb
    obtain ⟨k, hk, rfl⟩ := List.mem_map.1 hb
    rw [List.mem_range] at hk
    exact st (24 - k) k (by omega)
  have hlen : (aboveL (chainE 25) (nxT (I 25) 0 99 3)).length = 25 := by unfold aboveL; rw [reachL_length, hl]
  have hids := idsOf_len (chainE 25) (aboveL (chainE 25) (nxT (I 25) 0 99 3)) (by rw [hl, hlen])
  rw [cntB_all _ ha, hlen] at hids
  unfold fitsL
  rw [if_neg (by rw [hc]; simp), if_pos]
  unfold wiP
  rw [hids]; rfl
end Go.K
end
section
namespace Go.Proofs.YtfeifodeaphbjaaGreat
open Go Go.K
attribute [local irreducible] regK codeK retK KOp.wp K.Spec u32 leS vnS str zero32 sha2 encT idT sizeT checkT grantB idN stepR workL reachE findI dropG addG aboveL belowL idsOf feeD sizeD szOf feeOf fitsL chainE nxT I tab

theorem nxT_sm (id : ByteArray) (i m : Nat) : (nxT id i m 3).Sm := by
  unfold nxT nxG
  exact ⟨by simp, by simp, by simp⟩
set_option maxHeartbeats 1000000 in
theorem wakes15_spec (w : World) : K.Spec Tryz.prog F.kedgelaw15_wakes [] w fun r w' => r = .bool true ∧ Ext w w' := by
  have h0 : idN 3 = I 0 := by unfold I; exact tab_zero.symm
  refine s_kedgelaw15_wakes rfl ?_
  unfold k_kedgelaw15_wakes
  refine ox ?_
  repeat' (first|(first|refine go1 ?_|refine zg (fun _ _=>?_)|refine zi (fun _ _=>?_))|(refine zC rfl (new_spec _) ?_; rintro _ w1 ⟨g, M1, rfl, G1, x1⟩)|(refine zC rfl (idn_spec 3 _) ?_; rintro _ w2 ⟨rfl, x2⟩; rw [h0])|(refine c_loopV (fun (p : Nat × List Nat) w' => Ext w w' ∧ p.1 ≤ 25 ∧ Gr w' w.heap.size g p.2 (chainE p.1)) (fun p => [(1, .pointer (some ⟨g, 0, none⟩)), (2, .string (I p.1)), (7, .int .i64 p.1)]) (fun p => 25 - p.1) (0, M1) ⟨rfl, rfl, rfl, trivial⟩ ⟨x1.trans x2, Nat.zero_le _, by have := G1.ext x2; unfold chainE; exact this⟩ ?_; rintro ⟨i, M⟩ ρ w3 ⟨x3, hi, G3⟩; simp only at hi G3; dsimp only; have hM3 := G3.lt; have hB3 := G3.base)|(refine zL rfl (fun h => ?_) (fun h => ?_)))
  · have hil : i < 25 := by omega
    have hcl := chainE_len i
    refine zC rfl (next_spec (I i) (i := 0) (m := i) (by decide) (by omega) M _ hM3) ?_
    rintro _ w4 ⟨ds, rfl, ho, x4⟩
    have t4 : txR.rel M w4 ds (nxT (I i) 0 i 3) := txO.rel ho hM3
    have o1 := ho.one
    have hlen := ho.four
    have hsm := nxT_sm (I i) 0 i
    have hc : checkT (nxT (I i) 0 i 3) = 0 := by unfold nxT; exact nx_check (I_size (by omega)) (by decide) (by decide) (by decide)
    obtain ⟨iv5, ov5, rfl, -⟩ := ho
    refine zE (d' := 4) (fun _=>rfl) rfl rfl o1 (fun b6 w6 x6 (a6 : At w6 b6 (.cells (txCs (nxT (I i) 0 i 3) iv5 ov5).toArray T.api_Tx (0, 0))) r6 hb6=>?_)
    have s4 := x4.size
    have s6 := x6.size
    have t6 : txR.rel M w6 (txCs (nxT (I i) 0 i 3) iv5 ov5) (nxT (I i) 0 i 3) := R.ext t4 x6
    have G6 := G3.ext (x4.trans x6)
    have hM6 : ∀ b ∈ M, b < w6.heap.size := fun b hb => by have := hM3 b hb; omega
    have n6 : b6 ∉ M := fun h => by have := hM3 _ h; omega
    have x06 := x3.trans (x4.trans x6)
    have hz := sz_of_check hsm hc
    have hid := idT_I hil
    clear x3 x4 x6 G3 t4
    repeat' (first|(refine st_bin (d := some 16) (v := .bool false) rfl rfl rfl ?_)|(refine st_bin (d := some 21) (v := .bool false) rfl rfl rfl ?_)|(first|refine go1 ?_|refine zg (fun _ _=>?_)|refine zi (fun _ _=>?_))|(refine zC rfl (fits_spec (M := M) (N := M) (l := chainE i) (cs := txCs (nxT (I i) 0 i 3) iv5 ov5) (t := nxT (I i) 0 i 3) _ G6.r hM6 t6 hsm (by omega)) ?_; rintro _ w7 ⟨rfl, x7⟩; rw [fits_chain hil])|(refine zC rfl (gadd_spec (M := M) (N := M) (l := chainE i) (cs := txCs (nxT (I i) 0 i 3) iv5 ov5) (t := nxT (I i) 0 i 3) 1 _ (G6.ext (by exact fx)) (R.ext t6 (by exact fx)) hsm is64_one (fun b hb => Nat.lt_of_lt_of_le (hM6 b hb) (Ext.size (by exact fx))) (fun _ h => h) (by omega)) ?_; rintro _ w8 ⟨M8, rfl, G8, c8, hb8⟩; rw [addG_chain hil] at G8 ⊢))
    have t8 : txR.rel M8 w8 (txCs (nxT (I i) 0 i 3) iv5 ov5) (nxT (I i) 0 i 3) := txR.step (R.ext t6 x7) c8 (fun b hb => .inl hb) hb8
    have a8 := (a6.ext x7).chg c8 n6
    have r8 : Row w8 ⟨b6, 0, none⟩ (txCs (nxT (I i) 0 i 3) iv5 ov5) := Row.of_at a8
    have x08 : Ext w w8 := (Ext.chg (x06.trans x7) c8).mono (fun b hb => .inr (hB3 b hb))
    clear r6 x06
    repeat' (first|(first|refine go1 ?_|refine zg (fun _ _=>?_)|refine zi (fun _ _=>?_))|(refine zC rfl (rid_spec (M := M8) (cs := txCs (nxT (I i) 0 i 3) iv5 ov5) (t := nxT (I i) 0 i 3) _ (R.ext t8 (by exact fx)) hz) ?_; rintro _ w9 ⟨rfl, x9⟩; rw [hid]))
    exact ⟨(i + 1, M8), ⟨rfl, rfl, rfl, trivial⟩, ⟨x08.trans x9, by simp only; omega, G8.ext x9⟩, by simp only; omega⟩
  · obtain rfl : i = 25 := by omega
    have hcl := chainE_len 25
    have hsm := nxT_sm (I 25) 0 99
    repeat' (first|(first|refine go1 ?_|refine zg (fun _ _=>?_)|refine zi (fun _ _=>?_))|(refine zC rfl (next_spec (I 25) (i := 0) (m := 99) (by decide) (by decide) M _ (fun b hb => Nat.lt_of_lt_of_le (hM3 b hb) (Ext.size (by exact fx)))) ?_; rintro _ w4 ⟨ds, rfl, ho, x4⟩; have hoo := ho; obtain ⟨iv5, ov5, rfl, -⟩ := hoo)|(refine zC rfl (fits_spec (M := M) (N := M) (l := chainE 25) (cs := txCs (nxT (I 25) 0 99 3) iv5 ov5) (t := nxT (I 25) 0 99 3) _ (G3.r.ext (by exact fx)) (fun b hb => Nat.lt_of_lt_of_le (hM3 b hb) (Ext.size (by exact fx))) (txO.rel ho hM3) hsm (by omega)) ?_; rintro _ w7 ⟨rfl, x7⟩; rw [fits_full])|(refine zC rfl (fits_nil (t := nxT (I 25) 0 99 3) (iv := iv5) (ov := ov5) rfl _) ?_; rintro _ w8 ⟨rfl, x8⟩))
    exact x_ret rfl ⟨rfl, by exact fx⟩
end Go.Proofs.YtfeifodeaphbjaaGreat
end
