/- Plain: what fits behind one transaction with many others that spend it. Plain: the stars of LimitCarves, of small ones and of large ones. -/
import Derived.Test.YtfeifodeaphbjaaGreatH52
set_option linter.unusedVariables false
set_option linter.unusedSimpArgs false
section
namespace Go.K
open Go
def rid : ByteArray := str rootL
def rootT : Tx := nxG (idN 1) 0 0 1 40 ⟨#[]⟩
def rootE : Ent := ⟨rootT, rid, 1, 411⟩
def e0 : ByteArray := str []
structure StarOk (n : Nat) (s : ByteArray) (z N : Nat) (cid : Nat → ByteArray) : Prop where
  size : ∀ i, i < 100 → sizeT (nxG rid i i 4294967293 n s) = z
  check : ∀ i, i < 100 → checkT (nxG rid i i 4294967293 n s) = 0
  id : ∀ k, k < N → idT (nxG rid k k 4294967293 n s) = cid k
  one : ∀ k, k < N → cid k ≠ idN 1
  root : ∀ k, k < N → cid k ≠ rid
  inj : ∀ j k, j < N → k < N → cid j = cid k → j = k
def kidE (n : Nat) (s : ByteArray) (z : Nat) (cid : Nat → ByteArray) (k : Nat) : Ent := ⟨nxG rid k k 4294967293 n s, cid k, 1, (z : Nat)⟩
def star (n : Nat) (s : ByteArray) (z : Nat) (cid : Nat → ByteArray) (k : Nat) : List Ent := rootE :: (List.range k).map (kidE n s z cid)
theorem rid_size : rid.size = 32 := by
  unfold rid
  rw [str_size]; exact tabS_size _ (List.mem_cons_self ..)
theorem one_ne_rid : idN 1 ≠ rid := by
  rw [← one1_id]
  intro h
  have h1 := str_inj h
  have h2 := (List.nodup_cons.1 tabS_nodup).1
  rw [h1] at h2
  exact h2 (List.mem_cons_self ..)
section
variable {n z N k : Nat} {s : ByteArray} {cid : Nat → ByteArray}
theorem star_len : (star n s z cid k).length = k + 1 := by simp [star]
theorem star_succ : star n s z cid (k + 1) = star n s z cid k ++ [kidE n s z cid k] := by simp [star, List.range_succ]
theorem star_zero (h : 0 < (star n s z cid k).length) : (star n s z cid k)[0] = rootE := rfl
theorem star_get {j : Nat} (h : j + 1 < (star n s z cid k).length) : (star n s z cid k)[j + 1] = kidE n s z cid j := by simp [star]
theorem mem_star {x : Ent} (h : x ∈ star n s z cid k) : x = rootE ∨ ∃ j, j < k ∧ x = kidE n s z cid j := by
  unfold star at h
  rcases List.mem_cons.1 h with h | h
  · exact .inl h
  · simp only [List.mem_map, List.mem_range] at h
    obtain ⟨j, h1, rfl⟩ := h
    exact .inr ⟨j, h1, rfl⟩
theorem hangs_root {i : Nat} (hi : i < 40) : hangs (nxG rid i i 4294967293 n s) rootE = true := by
  unfold hangs rootE rootT nxG
  simp
  omega
theorem hangs_kid (h : StarOk n s z N cid) {t : Tx} {i m q n' : Nat} {s' : ByteArray} {j : Nat} (hj : j < N) : hangs (nxG rid i m q n' s') (kidE n s z cid j) = false := by
  have := h.root j hj
  unfold hangs kidE nxG
  simp only [List.any_cons, List.any_nil, Bool.or_false, Bool.and_eq_false_iff, decide_eq_false_iff_not]
  exact .inl fun e => this e.symm
theorem root_kid (h : StarOk n s z N cid) {j : Nat} (hj : j < N) : hangs rootT (kidE n s z cid j) = false := by
  have := h.one j hj
  unfold hangs kidE rootT nxG
  simp only [List.any_cons, List.any_nil, Bool.or_false, Bool.and_eq_false_iff, decide_eq_false_iff_not]
  exact .inl fun e => this e.symm
theorem star_above (h : StarOk n s z N cid) (hk : k ≤ N) {i : Nat} (hi : i < 40) : aboveL (star n s z cid k) (nxG rid i i 4294967293 n s) = true :: List.replicate k false := by
  have hl := star_len (n := n) (s := s) (z := z) (cid := cid) (k := k)
  have h0 : stepR (fun i' => hangs (nxG rid i i 4294967293 n s) (entD (star n s z cid k) i')) (hangE (star n s z cid k)) (star n s z cid k).length (star n s z cid k).length 0 = true := by
    refine stepR_base (by omega) ?_
    rw [entD_get (by omega), star_zero]
    exact hangs_root hi
  have hn : ∀ j, j < k + 1 → stepR (fun i' => hangs (nxG rid i i 4294967293 n s) (entD (star n s z cid k) i')) (hangE (star n s z cid k)) (star n s z cid k).length (star n s z cid k).length j = true → j = 0 := by
    intro j hj h1
    refine stepR_least (p := fun j => j = 0) (fun j hj h2 => ?_) (fun a b ha hb h2 h3 => ?_) _ _ (by omega) h1
    · cases j with
      | zero => rfl
      | succ j =>
        rw [entD_get hj, star_get, hangs_kid h (t := rootT) (by omega)] at h2; cases h2
    · subst h2
      cases b with
      | zero => rfl
      | succ b =>
        unfold hangE at h3
        rw [entD_get (by omega), star_zero, entD_get hb, star_get] at h3
        have := root_kid h (j := b) (by omega)
        rw [show rootE.tx = rootT from rfl, this] at h3; cases h3
  unfold aboveL
  apply List.ext_getElem
  · rw [reachL_length, List.length_cons, List.length_replicate, hl]
  · intro j h1 h2
    rw [reachL_length] at h1
    simp only [reachL, List.getElem_map, List.getElem_range]
    cases j with
    | zero => exact h0
    | succ j =>
      rw [List.getElem_cons_succ, List.getElem_replicate]
      cases hs : stepR (fun i' => hangs (nxG rid i i 4294967293 n s) (entD (star n s z cid k) i')) (hangE (star n s z cid k)) (star n s z cid k).length (star n s z cid k).length (j + 1) with
      | false => rfl
      | true => have := hn (j + 1) (by omega) hs; omega
theorem star_nodup (h : StarOk n s z N cid) (hk : k ≤ N) : ((star n s z cid k).map (·.id)).Nodup := by
  unfold star
  rw [List.map_cons, List.nodup_cons, List.map_map]
  constructor
  · intro hm
    simp only [List.mem_map, List.mem_range] at hm
    obtain ⟨j, h1, h2⟩ := hm
    exact h.root j (by omega) h2
  · rw [List.nodup_iff_pairwise_ne, List.pairwise_map]
    refine List.Pairwise.imp_of_mem (fun {a b} ha hb hab e => hab ?_) (List.nodup_iff_pairwise_ne.1 List.nodup_range)
    rw [List.mem_range] at ha hb
    exact h.inj a b (by omega) (by omega) e
theorem star_below (h : StarOk n s z N cid) (hk : k ≤ N) (hk2 : k < 40) : belowL (star n s z cid k) rid = List.replicate (k + 1) true := by
  have hl := star_len (n := n) (s := s) (z := z) (cid := cid) (k := k)
  have hf := findI_at (star_nodup h hk) (j := 0) (by omega)
  rw [star_zero] at hf
  have hf : findI (star n s z cid k) rid = 0 := hf
  have h0 : stepR (fun i => decide ((i : Int) = findI (star n s z cid k) rid)) (fun k' i => hangE (star n s z cid k) i k') (star n s z cid k).length (star n s z cid k).length 0 = true :=
    stepR_base (by omega) (decide_eq_true hf.symm)
  unfold belowL
  apply List.ext_getElem
  · rw [reachL_length, List.length_replicate, hl]
  · intro j h1 h2
    rw [reachL_length] at h1
    simp only [reachL, List.getElem_map, List.getElem_range]
    rw [List.getElem_replicate]
    cases j with
    | zero => exact h0
    | succ j =>
      refine stepR_closed h1 (by omega) h0 ?_
      unfold hangE
      rw [entD_get h1, entD_get (by omega), star_zero, star_get]
      exact hangs_root (by omega)
theorem szOf_all : ∀ (l : List Ent), szOf l (List.replicate l.length true) = (l.map (·.size)).sum
  | [] => rfl
  | x :: l => by
    have := szOf_all l
    simp only [List.length_cons, List.replicate_succ, szOf, List.map_cons, List.sum_cons, this, if_true]
theorem star_size : szOf (star n s z cid k) (List.replicate (k + 1) true) = 411 + k * z := by
  have hl := star_len (n := n) (s := s) (z := z) (cid := cid) (k := k)
  rw [← hl, szOf_all]
  unfold star
  rw [List.map_cons, List.sum_cons, List.map_map]
  have : ∀ k : Nat, ((List.range k).map ((·.size) ∘ kidE n s z cid)).sum = (k : Int) * z := fun k => by
    induction k with
    | zero => simp
    | succ k ih =>
      rw [List.range_succ, List.map_append, List.sum_append, ih]
      simp [kidE, Int.add_mul]
  rw [this]; rfl
theorem cntB_rep (k : Nat) : cntB (List.replicate k false) = 0 := by
  induction k with
  | zero => rfl
  | succ k ih => rw [List.replicate_succ, cntB, ih]; rfl
theorem szOf_rep : ∀ (l : List Ent) (k : Nat), szOf l (List.replicate k false) = 0
  | [], k => by cases k <;> rfl
  | x :: l, 0 => rfl
  | x :: l, k + 1 => by rw [List.replicate_succ, szOf, szOf_rep l k]; rfl
theorem idsOf_rep : ∀ (l : List Ent) (k : Nat), idsOf l (List.replicate k false) = []
  | [], k => by cases k <;> rfl
  | x :: l, 0 => rfl
  | x :: l, k + 1 => by rw [List.replicate_succ, idsOf, idsOf_rep l k]; rfl
theorem star_fits (h : StarOk n s z N cid) (hk : k ≤ N) (hk2 : k < 40) (hz : z ≤ 100000) {i : Nat} (hi : i < 40) : fitsL (star n s z cid k) (nxG rid i i 4294967293 n s)
    = if k + 2 ≤ 25 ∧ 411 + k * z + z ≤ 101000 then 0 else if z ≤ 10000 ∧ k + 2 ≤ 26 ∧ 411 + k * z + z ≤ 111000 then 0 else 14 := by
  have hl := star_len (n := n) (s := s) (z := z) (cid := cid) (k := k)
  have hnd := star_nodup h hk
  have hc := h.check i (by omega)
  have hs := h.size i (by omega)
  have ha := star_above h hk hi
  have hid : idsOf (star n s z cid k) (aboveL (star n s z cid k) (nxG rid i i 4294967293 n s)) = [rid] := by
    rw [ha]; unfold star
    rw [idsOf, if_pos rfl, idsOf_rep]; rfl
  have hb : ∀ c q, hoP (star n s z cid k) [rid] (z : Nat) c q = (decide ((k : Int) + 2 ≤ c) && decide (411 + (k : Int) * z + z ≤ q)) := fun c q => by
    unfold hoP
    rw [List.all_cons, List.all_nil, Bool.and_true, star_below h hk hk2, wiP_mask hnd (by rw [hl, List.length_replicate]), star_size]
    congr 1
    have : ∀ k : Nat, cntB (List.replicate k true) = k := fun k => by
      have := cntB_all (List.replicate k true) fun b hb => (List.mem_replicate.1 hb).2
      rw [List.length_replicate] at this; exact this
    rw [this]
    exact decide_eq_decide.2 (by omega)
  have hw : wiP (star n s z cid k) (idsOf (star n s z cid k) (aboveL (star n s z cid k) (nxG rid i i 4294967293 n s))) (z : Nat) 25 101000 = true := by
    rw [wiP_mask hnd (by rw [ha, List.length_cons, List.length_replicate, hl]), ha]
    unfold star
    rw [cntB, cntB_rep, szOf, szOf_rep]
    have : rootE.size = 411 := rfl
    rw [if_pos rfl, if_pos rfl, this, decide_eq_true (by decide), decide_eq_true (by omega)]; rfl
  have e2 : (((k * z : Nat) : Nat) : Int) = (k : Int) * z := Int.natCast_mul k z
  unfold fitsL
  rw [if_neg (by rw [hc]; simp), hs, hw, if_neg (by simp), hid, hb, hb]
  by_cases c1 : k + 2 ≤ 25 ∧ 411 + k * z + z ≤ 101000
  · rw [if_pos c1, decide_eq_true (by omega), decide_eq_true (by omega)]; rfl
  · rw [if_neg c1, if_neg (by rw [Bool.and_eq_true, decide_eq_true_eq, decide_eq_true_eq]; omega)]
    by_cases c2 : z ≤ 10000 ∧ k + 2 ≤ 26 ∧ 411 + k * z + z ≤ 111000
    · rw [if_pos c2, if_pos ⟨rfl, by omega, by rw [decide_eq_true (by omega), decide_eq_true (by omega)]; rfl⟩]
    · rw [if_neg c2, if_neg (by
        rintro ⟨_, g1, g2⟩
        rw [Bool.and_eq_true, decide_eq_true_eq, decide_eq_true_eq] at g2
        omega)]
theorem star_add (h : StarOk n s z N cid) (hk : k < N) (hk2 : k < 40) : addG (star n s z cid k) (nxG rid k k 4294967293 n s) 1 = (star n s z cid (k + 1), 0) := by
  have h1 : (star n s z cid k).any (fun x => decide (x.id = idT (nxG rid k k 4294967293 n s))) = false := by
    rw [List.any_eq_false]
    intro x hx
    rw [h.id k hk, decide_eq_true_eq]
    rcases mem_star hx with rfl | ⟨j, hj, rfl⟩
    · exact fun e => h.root k hk e.symm
    · exact fun e => by have := h.inj j k (by omega) hk e; omega
  have h2 : (nxG rid k k 4294967293 n s).ins.any (fun i => (star n s z cid k).any fun x => spends x i.p) = false := by
    unfold nxG
    simp only [List.any_cons, List.any_nil, Bool.or_false]
    rw [List.any_eq_false]
    intro x hx
    rcases mem_star hx with rfl | ⟨j, hj, rfl⟩
    · unfold spends rootE rootT nxG
      simp only [List.any_cons, List.any_nil, Bool.or_false, decide_eq_true_eq, Pt.mk.injEq]
      exact fun e => one_ne_rid e.1
    · unfold spends kidE nxG
      simp only [List.any_cons, List.any_nil, Bool.or_false, decide_eq_true_eq, Pt.mk.injEq]
      intro e
      omega
  have hg : grantB (nxG rid k k 4294967293 n s) = false := nx_grant (by omega)
  have hc := h.check k (by omega)
  unfold addG
  rw [if_neg (by rw [hc]; simp), if_neg (by rw [hg]; simp), if_neg (by decide), if_neg (by rw [h1]; simp), if_neg (by rw [h2]; simp), star_succ, h.id k hk, h.size k (by omega)]
  rfl
end
theorem rootT_check : checkT rootT = 0 := nx_check (idN_size 1) (by decide) (by decide) (by decide)
theorem rootT_id : idT rootT = rid := by
  unfold rootT
  rw [← one1_id]
  exact idT_nx (L := one1L) (s := []) (by decide) (by decide) (by decide) (by decide) (by decide) root_step
theorem rootT_size : sizeT rootT = 411 := by
  unfold rootT
  rw [← one1_id]
  have := nx_size (L := one1L) (s := []) (i := 0) (m := 0) (q := 1) (n := 40) (by decide) (by decide) (by decide) (by decide) (by decide)
  rw [encU_length] at this
  exact this
theorem root_add {n z : Nat} {s : ByteArray} {cid : Nat → ByteArray} : addG [] rootT 1 = (star n s z cid 0, 0) := by
  have hg : grantB rootT = false := nx_grant (by decide)
  have e : rootT.ins.any (fun i => ([] : List Ent).any fun x => spends x i.p) = false := by unfold rootT nxG; rfl
  unfold addG
  rw [if_neg (by rw [rootT_check]; simp), if_neg (by rw [hg]; simp), if_neg (by decide), if_neg (by simp), if_neg (by rw [e]; simp), rootT_id, rootT_size]
  rfl
theorem getD_mem {α : Type} {d : α} {l : List α} {k : Nat} (h : k < l.length) : l.getD k d ∈ l := by
  rw [List.getD_eq_getElem?_getD, List.getElem?_eq_getElem h]
  exact List.getElem_mem h
theorem getD_inj {α : Type} {d : α} {l : List α} (hn : l.Nodup) {j k : Nat} (hj : j < l.length) (hk : k < l.length) (h : l.getD j d = l.getD k d) : j = k := by
  rw [List.getD_eq_getElem?_getD, List.getElem?_eq_getElem hj, List.getD_eq_getElem?_getD, List.getElem?_eq_getElem hk] at h
  exact (List.getElem_inj hn).1 h
theorem star_of {tb : List (List UInt8)} {n z : Nat} {sl : List UInt8} (hnd : (one1L :: rootL :: tb).Nodup) (hsz : ∀ i, i < 100 → sizeT (nxG rid i i 4294967293 n (str sl)) = z) (h1 : 1 ≤ n) (h2 : n ≤ 256) (hs : sl.length ≤ 40)
    (hid : ∀ k, k < tb.length → idT (nxG rid k k 4294967293 n (str sl)) = str (tb.getD k [])) : StarOk n (str sl) z tb.length fun k => str (tb.getD k []) where
  size := hsz
  check := fun i _ => nx_check rid_size h1 h2 (by rw [str_size]; exact hs)
  id := hid
  one := fun k hk e => by
    rw [← one1_id] at e
    have e := str_inj e
    have h3 := (List.nodup_cons.1 hnd).1
    exact h3 (List.mem_cons_of_mem _ (by rw [← e]; exact getD_mem hk))
  root := fun k hk e => by
    have e := str_inj e
    have h3 := (List.nodup_cons.1 (List.nodup_cons.1 hnd).2).1
    exact h3 (by rw [← e]; exact getD_mem hk)
  inj := fun j k hj hk e => getD_inj (List.nodup_cons.1 (List.nodup_cons.1 hnd).2).2 hj hk (str_inj e)
def cidS (k : Nat) : ByteArray := str (tabS.getD k [])
def cidB (k : Nat) : ByteArray := str (tabB.getD k [])
theorem rootL_len : rootL.length = 32 := rfl
theorem starS : StarOk 3 ⟨#[]⟩ 78 25 cidS :=
  star_of (tb := tabS) (sl := []) tabS_nodup (fun i hi => by
    have := nx_size (L := rootL) (s := []) (i := i) (m := i) (q := 4294967293) (n := 3) (by omega) (by omega) (by decide) (by decide) (by decide)
    rw [encU_length, rootL_len] at this
    exact this) (by decide) (by decide) (by decide) (fun k hk => idT_nx (L := rootL) (s := []) (by have : tabS.length = 25 := rfl; omega) (by have : tabS.length = 25 := rfl; omega) (by decide) (by decide) (by decide) (tabS_step k hk))
theorem big_len (k : Nat) : ((encU rootL k k 4294967293 256 s40L).map UInt8.toNat).length = 12597 := by
  rw [List.length_map, encU_length, rootL_len]; rfl
theorem big_id {k : Nat} {m r : List UInt8} (hk : k < 100) (h1 : runN 197 (wordsN ((encU rootL k k 4294967293 256 s40L).map UInt8.toNat ++ [128, 0, 0, 0, 0, 0, 0, 0, 1, 137, 168])) 1779033703 3144134277 1013904242 2773480762 1359893119 2600822924 528734635 1541459225 = m.map UInt8.toNat)
    (h2 : shaN ((m.map UInt8.toNat).map UInt8.ofNat |>.map UInt8.toNat) = r.map UInt8.toNat) : idT (nxG rid k k 4294967293 256 (str s40L)) = str r := by
  refine idT_nx (L := rootL) (s := s40L) (by omega) (by omega) (by decide) (by decide) (by decide) ?_
  rw [shaN_tail _ 197 12597 [128, 0, 0, 0, 0, 0, 0, 0, 1, 137, 168] (big_len k) (by decide +kernel) (by decide), h1]
  exact h2
theorem starB : StarOk 256 (str s40L) 12597 7 cidB :=
  star_of (tb := tabB) (sl := s40L) tabB_nodup (fun i hi => by
    have := nx_size (L := rootL) (s := s40L) (i := i) (m := i) (q := 4294967293) (n := 256) (by omega) (by omega) (by decide) (by decide) (by decide)
    rw [encU_length, rootL_len] at this
    exact this) (by decide) (by decide) (by decide) (fun k hk => by
      have hk : k < 7 := hk
      match k, hk with
      | 0, _ => exact big_id (by decide) bigA0 bigB0
      | 1, _ => exact big_id (by decide) bigA1 bigB1
      | 2, _ => exact big_id (by decide) bigA2 bigB2
      | 3, _ => exact big_id (by decide) bigA3 bigB3
      | 4, _ => exact big_id (by decide) bigA4 bigB4
      | 5, _ => exact big_id (by decide) bigA5 bigB5
      | 6, _ => exact big_id (by decide) bigA6 bigB6)
end Go.K
end
section
namespace Go.K
open Go
def kn (b : Bool) : Nat := if b then 3 else 256
def ks (b : Bool) : ByteArray := if b then ⟨#[]⟩ else str s40L
def kz (b : Bool) : Nat := if b then 78 else 12597
def kW (b : Bool) : Nat := if b then 25 else 7
def kcid (b : Bool) : Nat → ByteArray := if b then cidS else cidB
def starC (b : Bool) (k : Nat) : List Ent := star (kn b) (ks b) (kz b) (kcid b) k
def kidT (b : Bool) (i : Nat) : Tx := nxG rid i i 4294967293 (kn b) (ks b)
theorem kW_le (b : Bool) : kW b ≤ 25 := by cases b <;> decide
theorem starOk (b : Bool) : StarOk (kn b) (ks b) (kz b) (kW b) (kcid b) := by
  cases b
  · exact starB
  · exact starS
theorem starC_len {b : Bool} {k : Nat} : (starC b k).length = k + 1 := star_len
theorem car_fits {b : Bool} {i : Nat} (hi : i < 40) : fitsL (starC b (min i (kW b))) (kidT b i) = if i < kW b then 0 else 14 := by
  have h := star_fits (starOk b) (k := min i (kW b)) (by omega) (by have := kW_le b; omega) (by cases b <;> decide) hi
  unfold starC kidT
  rw [h]
  cases b
  · have e1 : kW false = 7 := rfl
    have e2 : kz false = 12597 := rfl
    rw [e1, e2]
    by_cases c : i < 7
    · rw [if_pos c, if_pos ⟨by omega, by omega⟩]
    · rw [if_neg c, if_neg (by omega), if_neg (by omega)]
  · have e1 : kW true = 25 := rfl
    have e2 : kz true = 78 := rfl
    rw [e1, e2]
    by_cases c : i < 24
    · rw [if_pos (show i < 25 by omega), if_pos ⟨by omega, by omega⟩]
    · by_cases c2 : i < 25
      · rw [if_pos c2, if_neg (by omega), if_pos ⟨by omega, by omega, by omega⟩]
      · rw [if_neg c2, if_neg (by omega), if_neg (by omega)]
theorem car_add {b : Bool} {i : Nat} (hi : i < kW b) : addG (starC b i) (kidT b i) 1 = (starC b (i + 1), 0) :=
  star_add (starOk b) hi (by have := kW_le b; omega)
theorem car_root {b : Bool} : addG [] rootT 1 = (starC b 0, 0) := root_add
theorem car_size {b : Bool} {k : Nat} (hk : k ≤ kW b) : sizeD (starC b k) (idsOf (starC b k) (belowL (starC b k) rid)) = 411 + (k : Int) * (kz b : Nat) := by
  have h25 := kW_le b
  unfold starC
  rw [sums_once (star_nodup (starOk b) hk), star_below (starOk b) hk (by omega), star_size]
theorem car_sm (b : Bool) (i : Nat) : (kidT b i).Sm := by
  have h : kn b ≤ 256 := by cases b <;> decide
  unfold kidT nxG
  exact ⟨by simp, by simp only [List.length_replicate]; omega, by simp⟩
theorem rootT_sm : rootT.Sm := by
  unfold rootT nxG
  exact ⟨by simp, by simp, by simp⟩
end Go.K
end
