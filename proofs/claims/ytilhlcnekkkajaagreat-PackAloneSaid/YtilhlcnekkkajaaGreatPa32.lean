/- Plain: what the document fixes of replacing. Contracts: what the document fixes of replacing. Plain: transactions alike in all parts are one. Contracts: whether two transactions are alike. The walk of ReplaceComes. Contracts: sets of coins. Errors, and views of coins, as they lie. Contracts: a view over a graph. -/
import Derived.Test.YtilhlcnekkkajaaGreatPa31
set_option linter.unusedVariables false
set_option linter.unusedSimpArgs false
section
namespace Go.K
open Go Go.Proofs.YtilhlcnekkkajaaGreat
end Go.K
end
section
namespace Go.Proofs.YtilhlcnekkkajaaGreat
open Go Go.K
attribute [local irreducible] regK codeK retK KOp.wp K.Spec u32 leS vnS str zero32 sha2 encT idT sizeT checkT grantB idN stepR workL reachE findI dropG addG oneM idL
attribute [local irreducible] makeN eA eB needN needE rulesL confL evL idsOf
abbrev zR0 : Small := ⟨[200], 0, 0, 0, 0, 0⟩
abbrev zR1 : Small := ⟨[200], 0, 0, 0, 1, 0⟩
end Go.Proofs.YtilhlcnekkkajaaGreat
end
section
namespace Go.K
open Go
theorem pt_ext {p q : Pt} (h1 : p.s = q.s) (h2 : p.i = q.i) : p = q := by cases p; cases q; simp_all
theorem take_eq {α : Type} {l m : List α} {i : Nat} (h : l.take i = m.take i) (hl : i < l.length) (hm : i < m.length) (e : l[i] = m[i]) : l.take (i + 1) = m.take (i + 1) := by
  rw [List.take_succ_eq_append_getElem hl, List.take_succ_eq_append_getElem hm, h, e]
end Go.K
end
section
namespace Go.Proofs.YtilhlcnekkkajaaGreat
open Go Go.K
attribute [local irreducible] regK codeK retK KOp.wp K.Spec u32 leS vnS str zero32 sha2 encT idT sizeT checkT grantB
end Go.Proofs.YtilhlcnekkkajaaGreat
end
section
namespace Go.Proofs.YtilhlcnekkkajaaGreat
open Go Go.K
attribute [local irreducible] regK codeK retK KOp.wp K.Spec u32 leS vnS str zero32 sha2 encT idT sizeT checkT grantB idN stepR workL reachE findI dropG addG needN needE rulesL enoughL confL evL idsOf goneF cmpR hitE inB aboveL leftL dropAll
end Go.Proofs.YtilhlcnekkkajaaGreat
end
section
namespace Go.Proofs.YtilhlcnekkkajaaGreat
open Go Go.K
attribute [local irreducible] regK codeK retK KOp.wp K.Spec

theorem cformed_spec (p : Pt) (c : Cn) (w : World) : K.Spec Tryz.prog F.coins_formed [p.val, c.val] w fun v w' => v = .bool (formedB p c) ∧ Ext w w' := by
  refine s_coins_formed rfl ?_
  unfold k_coins_formed
  refine oy ?_
  repeat (first|refine go ?_|refine zg (fun _ _=>?_)|refine zi (fun _ _=>?_))
  refine st_box rfl rfl (fun b1 w1 x1 _ r1 _ => ?_)
  repeat (first|refine go ?_|refine zg (fun _ _=>?_)|refine zi (fun _ _=>?_))
  refine st_box rfl rfl (fun b2 w2 x2 _ r2 _ => ?_)
  repeat (first|refine go ?_|refine zg (fun _ _=>?_)|refine zi (fun _ _=>?_))
  have e32 : ((p.s.size : Int) = 32) ↔ p.s.size = 32 := by omega
  refine g_split rfl (fun h1 => ?_) (fun h1 => ?_)
  · repeat (first|refine go ?_|refine zg (fun _ _=>?_)|refine zi (fun _ _=>?_))
    refine g_split rfl (fun h2 => ?_) (fun h2 => ?_)
    · repeat (first|refine go ?_|refine zg (fun _ _=>?_)|refine zi (fun _ _=>?_))
      refine g_split rfl (fun h3 => ?_) (fun h3 => ?_)
      · repeat (first|refine go ?_|refine zg (fun _ _=>?_)|refine zi (fun _ _=>?_))
        refine x_ret rfl ⟨congrArg Value.bool ?_, x1.trans x2⟩
        simp [formedB, e32.1 h1, h2, h3]
      · repeat (first|refine go ?_|refine zg (fun _ _=>?_)|refine zi (fun _ _=>?_))
        refine x_ret rfl ⟨congrArg Value.bool ?_, x1.trans x2⟩
        simp [formedB, h3]
    · repeat (first|refine go ?_|refine zg (fun _ _=>?_)|refine zi (fun _ _=>?_))
      refine x_ret rfl ⟨congrArg Value.bool ?_, x1.trans x2⟩
      simp [formedB, h2]
  · repeat (first|refine go ?_|refine zg (fun _ _=>?_)|refine zi (fun _ _=>?_))
    refine x_ret rfl ⟨congrArg Value.bool ?_, x1.trans x2⟩
    have h1' : ¬ p.s.size = 32 := fun h => h1 (e32.2 h)
    simp [formedB, h1']
theorem cnew_spec (w : World) : K.Spec Tryz.prog F.coins_New [] w fun v w' => ∃ b mb, v = .pointer (some ⟨b, 0, none⟩) ∧ SetE T.coins_Set w' b mb [] ∧ w.heap.size ≤ b ∧ w.heap.size ≤ mb ∧ Ext w w' := by
  refine s_coins_New rfl ?_
  unfold k_coins_New
  refine oy ?_
  repeat (first|refine go ?_|refine zg (fun _ _=>?_)|refine zi (fun _ _=>?_))
  refine st_makeMap (E := ptK) (fv := Cn.val) (fun mb w1 x1 hm hmb => ?_)
  repeat (first|refine go ?_|refine zg (fun _ _=>?_)|refine zi (fun _ _=>?_))
  refine st_box rfl rfl (fun b w2 x2 a2 r2 hb => ?_)
  repeat (first|refine go ?_|refine zg (fun _ _=>?_)|refine zi (fun _ _=>?_))
  exact x_ret rfl ⟨b, mb, rfl, ⟨a2, hm.ext x2, Mon.nil⟩, Nat.le_trans x1.size hb, hmb, x1.trans x2⟩
theorem cget_spec {t : TypeId} {b mb : Nat} {m : List En} (p : Pt) (w : World) (h : SetE t w b mb m) : K.Spec Tryz.prog F.coins_Set_Get [.pointer (some ⟨b, 0, none⟩), p.val] w fun v w' => v = .tuple #[(takeCoin m p).val, .bool (aget m p).isSome] ∧ Ext w w' := by
  have r := h.row
  have hM := h.2.1
  refine s_coins_Set_Get rfl ?_
  unfold k_coins_Set_Get
  refine oy ?_
  repeat' (first|(refine zD (d := some 3) rfl rfl (fun b1 w1 x1 a1 (r1 : Row w1 ⟨b1, 0, none⟩ p.cs) hb1 => ?_))|(refine zH (d := some 4) (fun b2 w2 x2 a2 hb2 => ?_); have s2 : w.heap.size ≤ b2 := Nat.le_trans x1.size hb2)|(refine st_lookupOk (d := some 17) (E := ptK) (fv := Cn.val) (k := p) rfl rfl (MapE.ext (w := w) (by exact fx) hM) rfl rfl (fun c hc => ?_) (fun hc => ?_))|(refine zH (d := some 6) (fun b6 w6 x6 a6 hb6 => ?_); have s6 : w.heap.size ≤ b6 := Nat.le_trans (Ext.size (w := w) (by exact fx)) hb6; have s26 : w2.heap.size ≤ b6 := Nat.le_trans (Ext.size (w := w2) (by exact fx)) hb6)|(first|refine go1 ?_|refine zg (fun _ _=>?_)|refine zi (fun _ _=>?_)))
  · refine st_setN (w0 := w) (vs := c.cs) (by exact fx) s6 a6 rfl rfl rfl rfl rfl (fun w7 x7 c7 a7 r7 => ?_)
    have a2' := At.chg c7 (At.ext (w := w2) (by exact fx) a2) (by have := a2.lt; simp; omega)
    repeat (first|refine go1 ?_|refine zg (fun _ _=>?_)|refine zi (fun _ _=>?_))
    refine st_setN (w0 := w) (vs := c.cs) (by exact fx) s2 a2' rfl rfl rfl rfl rfl (fun w9 x9 c9 a9 r9 => ?_)
    repeat (first|refine go1 ?_|refine zg (fun _ _=>?_)|refine zi (fun _ _=>?_))
    exact x_ret (ret2 (rv_cell r9 rfl rfl) rv_tmp) ⟨by rw [takeCoin, hc]; rfl, x9⟩
  · refine st_setN (w0 := w) (vs := cn0.cs) (by exact fx) s6 a6 rfl rfl rfl rfl rfl (fun w7 x7 c7 a7 r7 => ?_)
    have a2' := At.chg c7 (At.ext (w := w2) (by exact fx) a2) (by have := a2.lt; simp; omega)
    repeat (first|refine go1 ?_|refine zg (fun _ _=>?_)|refine zi (fun _ _=>?_))
    refine st_setN (w0 := w) (vs := cn0.cs) (by exact fx) s2 a2' rfl rfl rfl rfl rfl (fun w9 x9 c9 a9 r9 => ?_)
    repeat (first|refine go1 ?_|refine zg (fun _ _=>?_)|refine zi (fun _ _=>?_))
    exact x_ret (ret2 (rv_cell r9 rfl rfl) rv_tmp) ⟨by rw [takeCoin, hc]; rfl, x9⟩
set_option maxHeartbeats 1000000 in
theorem cput_spec {t : TypeId} {b mb : Nat} {m : List En} (p : Pt) (c : Cn) (w : World) (h : SetE t w b mb m) : K.Spec Tryz.prog F.coins_Set_Put [.pointer (some ⟨b, 0, none⟩), p.val, c.val] w fun v w' =>
    v = .int .i64 (putCode m p c) ∧ SetE t w' b mb (putMap m p c) ∧ Chg [b, mb] w w' := by
  have r := h.row
  have hne := h.ne
  have hb := h.1.lt
  have hmb := h.2.1.lt
  have hM := h.2.1
  have fail : ∀ {w' : World} {n : Int}, Ext w w' → n ≠ 0 → putCode m p c = n → Value.int .i64 n = .int .i64 (putCode m p c) ∧ SetE t w' b mb (putMap m p c) ∧ Chg [b, mb] w w' := by
    intro w' n x hn hc
    refine ⟨by rw [hc], ?_, Chg.mono x (by simp)⟩
    rw [putMap, if_neg (by rw [hc]; exact hn)]; exact h.ext x
  refine s_coins_Set_Put rfl ?_
  unfold k_coins_Set_Put
  refine oy ?_
  repeat' (first|(refine zD (d := some 4) rfl rfl (fun b1 w1 x1 a1 (r1 : Row w1 ⟨b1, 0, none⟩ p.cs) hb1 => ?_))|(refine zD (d := some 5) rfl rfl (fun b2 w2 x2 a2 (r2 : Row w2 ⟨b2, 0, none⟩ c.cs) hb2 => ?_))|(refine zC (d := some 17) rfl (cformed_spec p c _) ?_; rintro _ w3 ⟨rfl, x3⟩)|(refine c_condB (x := .tmp 14) rfl (fun hf => ?_) (fun hf => ?_))|(refine st_lookupOk (d := some 25) (E := ptK) (fv := Cn.val) (k := p) rfl rfl (MapE.ext (w := w) (by exact fx) hM) rfl rfl (fun d hd => ?_) (fun hd => ?_))|(refine zH (d := some 7) (fun b6 w6 x6 a6 hb6 => ?_); have s6 : w.heap.size ≤ b6 := Nat.le_trans (Ext.size (w := w) (by exact fx)) hb6; have s26 : w2.heap.size ≤ b6 := Nat.le_trans (Ext.size (w := w2) (by exact fx)) hb6)|(refine st_setN (w0 := w) (n := 3) (vs := d.cs) (by exact fx) s6 a6 rfl rfl rfl rfl rfl (fun w7 x7 c7 a7 r7 => ?_))|(refine st_setN (w0 := w) (n := 3) (vs := cn0.cs) (by exact fx) s6 a6 rfl rfl rfl rfl rfl (fun w7 x7 c7 a7 r7 => ?_); replace r1 : Row w7 ⟨b1, 0, none⟩ p.cs := Row.chg c7 (Row.ext (w := w1) (by exact fx) r1) (by have := a1.lt; have := x2.size; simp; omega); replace r2 : Row w7 ⟨b2, 0, none⟩ c.cs := Row.chg c7 (Row.ext (w := w2) (by exact fx) r2) (by have := a2.lt; simp; omega); have s01 := x1.size; clear x1 x2 x3 x6 c7 a6)|(refine zC (d := some 37) rfl (add_spec (tot m) c.v _) ?_; rintro _ w8 ⟨rfl, rfl⟩)|(refine zN (p := (if addOk (tot m) c.v = true then (0 : Int) else 3) = 0) rfl (fun he => ?_) (fun he => ?_))|(refine st_both ?_ ?_)|(first|refine go1 ?_|refine zg (fun _ _=>?_)|refine zi (fun _ _=>?_)))
  · exact x_ret rfl (fail (by exact fx) (by decide) (putCode2 (by simpa using hf)))
  · exact x_ret rfl (fail x7 (by decide) (putCode7 (by simpa using hf) hd))
  · have hP := putCode0 (by simpa using hf) hd h.2.2
    have ho : addOk (tot m) c.v = false := by
      cases hx : addOk (tot m) c.v
      · rfl
      · rw [hx] at he; exact absurd rfl he
    rw [ho] at hP
    refine x_ret (v := .int .i64 3) ?_ (fail (by exact fx) (by decide) hP)
    rw [ho]; rfl
  all_goals
    have ho : addOk (tot m) c.v = true := by
      cases hx : addOk (tot m) c.v
      · rw [hx] at he; exact absurd he (by decide)
      · rfl
    have hP : putCode m p c = 0 := by rw [putCode0 (by simpa using hf) hd h.2.2, ho]; rfl
    have hn : ∀ {w' w'' : World}, At w' b (.cells ([Value.map (some mb), .int .i64 (tot m)].set 1 (.int .i64 (if addOk (tot m) c.v = true then tot m + c.v else 0))).toArray t (0, 0)) → MapE ptK Cn.val w' mb (aset m p c) → Ext w' w'' → SetE t w'' b mb (putMap m p c) := by
      intro w' w'' ha hM x
      rw [putMap, if_pos hP]
      rw [aset_none hd] at hM
      refine ⟨?_, hM.ext x, h.2.2.put hP⟩
      have := ha.ext x
      rw [ho] at this
      have e : tot (m ++ [(p, c)]) = tot m + c.v := by simp
      rw [e]; exact this
    rename_i x78 w9 x89
    have x79 : Ext w7 w9 := x78.trans x89
    have x09 : Ext w w9 := x7.trans x79
    have h9 := h.ext x09
    have r19 := r1.ext x79
    have r29 := r2.ext x79
    have r9 := h9.row
    clear x7 x78 x89 x79 r1 r2 r r7 a7
    repeat' (first|(refine st_mapEntry (d := some 51) (E := ptK) (fv := Cn.val) (k := p) rfl rfl h9.2.1 rfl rfl (fun st w10 c10 hM10 => ?_); have r210 : Row w10 ⟨b2, 0, none⟩ c.cs := r29.chg c10 (by simp; omega); have a10 := h9.1.chg c10 (by simp; omega))|(refine st_entryStore (E := ptK) (fv := Cn.val) (k := p) (v := c) rfl rfl rfl hM10 (fun w11 c11 hM11 => ?_); have a11 := a10.chg c11 (by simp; omega))|(first|refine go1 ?_|refine zg (fun _ _=>?_)|refine zi (fun _ _=>?_)))
    refine st_store (b := b) (o := 1) rfl rfl rfl a11 (by simp) (fun w12 c12 a12 => ?_)
    repeat (first|refine go1 ?_|refine zg (fun _ _=>?_)|refine zi (fun _ _=>?_))
    refine x_ret rfl ⟨by rw [hP]; rfl, hn a12 (hM11.chg c12 (by simp; omega)) (Ext.refl _), ?_⟩
    refine (x09.chg (c10.trans (c11.trans c12))).mono ?_
    intro y hy
    simp at hy ⊢
    omega
end Go.Proofs.YtilhlcnekkkajaaGreat
end
section
namespace Go.Proofs.YtilhlcnekkkajaaGreat
open Go Go.K

section
variable {P : Program} {d : Option Tmp} {r : KR} {K : Env → World → Prop} {ρ : Env} {w : World}
theorem st_invoke {x : Operand} {name : String} {args : List Operand} {t : TypeId} {u rv : Value} {fn : FuncId} {vs : List Value} {R : Value → World → Prop} (hx : ev ρ x = .iface t u) (hm : methodOf P t u name = some (fn, rv)) (hb : hasBody P fn = true) (ha : rv :: args.map (ev ρ) = vs)
    (h : Go.K.Spec P fn vs w R) (k : ∀ v w', R v w' → regK P r K (put ρ d v) w') : regK P (.cons ⟨d, .invoke x name args, none⟩ r) K ρ w :=
  st_wp ⟨t, u, fn, rv, hx, hm, hb, by subst ha; exact h.mono fun e w' ⟨v, hv, hR⟩ => ⟨v, hv, k v w' hR⟩⟩
theorem st_nilM {f : TypeId → Value → String → Bool} {x : Operand} {name : String} {t : TypeId} {u : Value} (hx : ev ρ x = .func (.method name) #[.iface t u] #[]) (hm : f t u name = true) (k : regK P r K (put ρ d (.func (.method name) #[.iface t u] #[])) w) : regK P (.cons ⟨d, .nilM f x, none⟩ r) K ρ w :=
  st_fix rfl (by simp [KOp.fix, hx, hm]) k
end
theorem mo_of {t : TypeId} {u : Value} {s : String} (h : metOk Tryz.prog t u s = true) : mo t u s = true := by unfold mo; exact h
/-- An error's number as an error. -/
abbrev errno (c : Int) : Value := .iface T.api_Errno (.int .i64 c)
/-- An error of a number and a place, wrapped at most d times. -/
def ErrR (w : World) : Nat → Value → Int → Int → Prop
  | 0, v, c, a => a = -1 ∧ (c = 0 ∧ v = .nilIface ∨ c ≠ 0 ∧ v = errno c)
  | d + 1, v, c, a => ErrR w d v c a ∨ c ≠ 0 ∧ 0 ≤ a ∧ ∃ b u a', v = .iface T.P_api_Fault (.pointer (some ⟨b, 0, none⟩)) ∧ At w b (.cells [.int .i64 a, u].toArray T.api_Fault (0, 0)) ∧ ErrR w d u c a'
theorem ErrR.ext {w w' : World} (x : Ext w w') : ∀ {d : Nat} {v : Value} {c a : Int}, ErrR w d v c a → ErrR w' d v c a
  | 0, _, _, _, h => h
  | _ + 1, _, _, _, .inl h => .inl (ErrR.ext x h)
  | _ + 1, _, _, _, .inr ⟨h1, h2, b, u, a', h3, h4, h5⟩ => .inr ⟨h1, h2, b, u, a', h3, h4.ext x, ErrR.ext x h5⟩
theorem ErrR.none_ (w : World) (d : Nat) : ErrR w d .nilIface 0 (-1) := by
  induction d with
  | zero => exact ⟨rfl, .inl ⟨rfl, rfl⟩⟩
  | succ d ih => exact .inl ih
theorem ErrR.num (w : World) (d : Nat) {c : Int} (h : c ≠ 0) : ErrR w d (errno c) c (-1) := by
  induction d with
  | zero => exact ⟨rfl, .inr ⟨h, rfl⟩⟩
  | succ d ih => exact .inl ih
theorem ErrR.nil_iff {w : World} : ∀ {d : Nat} {v : Value} {c a : Int}, ErrR w d v c a → (c = 0 → v = .nilIface ∧ a = -1) ∧ (c ≠ 0 → ∃ t u, v = .iface t u)
  | 0, _, _, _, ⟨h1, h2⟩ => by
    rcases h2 with ⟨h2, h3⟩ | ⟨h2, h3⟩
    · exact ⟨fun _ => ⟨h3, h1⟩, fun h => absurd h2 h⟩
    · exact ⟨fun h => absurd h h2, fun _ => ⟨_, _, h3⟩⟩
  | _ + 1, _, _, _, .inl h => ErrR.nil_iff h
  | _ + 1, _, _, _, .inr ⟨h1, _, _, _, _, h3, _⟩ => ⟨fun h => absurd h h1, fun _ => ⟨_, _, h3⟩⟩
/-- A view: what it answers of points. -/
def ViewR (w : World) (v : Value) (f : Pt → Option Cn) : Prop := (∃ t u, v = .iface t u ∧ ∀ p : Pt, is32 p.i → ∀ w1, Ext w w1 → ∃ fn rv, metOk Tryz.prog t u "Get" = true ∧ methodOf Tryz.prog t u "Get" = some (fn, rv) ∧ hasBody Tryz.prog fn = true ∧
    K.Spec Tryz.prog fn [rv, .agg p.cs.toArray] w1 fun r w2 => ∃ c : Cn, r = .tuple #[.agg c.cs.toArray, .bool (f p).isSome] ∧ (f p).getD cn0 = c ∧ Ext w1 w2) ∧ ∀ p c, f p = some c → c.s.size ≤ 1000000
theorem ViewR.ext {w w' : World} {v : Value} {f : Pt → Option Cn} (h : ViewR w v f) (x : Ext w w') : ViewR w' v f := by
  obtain ⟨⟨t, u, e, h⟩, h2⟩ := h
  exact ⟨⟨t, u, e, fun p hp w1 x1 => h p hp w1 (x.trans x1)⟩, h2⟩
theorem ViewR.of_set {w : World} {b mb : Nat} {m : List En} (h : SetE T.coins_Set w b mb m) (hs : ∀ e ∈ m, e.2.s.size ≤ 1000000) : ViewR w (.iface T.P_coins_Set (.pointer (some ⟨b, 0, none⟩))) (aget m) := by
  refine ⟨⟨_, _, rfl, fun p hp w1 x1 => ⟨F.coins_Set_Get, .pointer (some ⟨b, 0, none⟩), by kernel_rfl, by kernel_rfl, by kernel_rfl, ?_⟩⟩, fun p c hc => hs _ (aget_mem hc)⟩
  have := cget_spec p w1 (h.ext x1)
  unfold K.Spec at this ⊢
  exact this.mono fun e w2 ⟨v, e1, e2, x2⟩ => ⟨v, e1, takeCoin m p, e2, rfl, x2⟩
end Go.Proofs.YtilhlcnekkkajaaGreat
end
section
namespace Go.Proofs.YtilhlcnekkkajaaGreat
open Go Go.K
attribute [local irreducible] regK codeK retK KOp.wp K.Spec u32 leS vnS str zero32 sha2 encT idT sizeT checkT grantB

/-- A view over a graph, as it lies in an interface. -/
abbrev overI (v g : Value) (h : Int) : Value := .iface T.pool_over (.agg #[v, g, .int .i64 h])
theorem pover_spec (vt : TypeId) (vu : Value) (o : Option Addr) (h : Int) (w : World) : K.Spec Tryz.prog F.pool_Over [.pointer o, .iface vt vu, .int .i64 h] w fun r w' => r = overI (.iface vt vu) (.pointer o) h ∧ Ext w w' := by
  refine s_pool_Over rfl ?_
  unfold k_pool_Over
  refine oy ?_
  repeat' (first|(refine st_build (d := some 10) (cs := [.iface vt vu, .pointer o, .int .i64 h]) rfl ?_)|(first|refine go1 ?_|refine zg (fun _ _=>?_)|refine zi (fun _ _=>?_)))
  exact x_ret rfl ⟨rfl, Ext.refl _⟩
theorem out_size {l : List Ent} (hE : ∀ x ∈ l, EntOk x) {h : Int} {p : Pt} {c : Cn} (hc : outAt l h p = some c) : c.s.size ≤ 1000000 := by
  unfold outAt at hc
  split at hc
  · rename_i hh
    obtain ⟨o, ho, rfl⟩ := Option.map_eq_some_iff.1 hc
    have h1 : hasE l p.s = true := by
      have := hh
      simp only [outHas, Bool.and_eq_true] at this
      exact this.1
    obtain ⟨y, hy, e⟩ := List.any_eq_true.1 h1
    cases hf : l.find? fun x => decide (x.id = p.s) with
    | none => exact absurd e (List.find?_eq_none.1 hf y hy)
    | some z =>
      obtain ⟨_, e2, e3, _⟩ := has_some hf
      have hck := (hE z e3).check
      have hz := sz_of_check (chk_sm hck) hck
      rw [e2] at ho
      have := hz.scr o (List.mem_of_getElem? ho)
      show o.s.size ≤ 1000000
      omega
  · cases hc
abbrev cZ : List Value := [.int .i64 0, .string ⟨#[]⟩, .int .i64 0]
set_option maxHeartbeats 1000000 in
theorem over_view {w : World} {v : Value} {f : Pt → Option Cn} {g : Nat} {M : List Nat} {l : List Ent} (h : Int) (hV : ViewR w v f) (hG : GrR w g M l) (hM : ∀ b ∈ M, b < w.heap.size) : ViewR w (overI v (.pointer (some ⟨g, 0, none⟩)) h) (overV f l h) := by
  have hE := hG.ok
  obtain ⟨⟨t, u, rfl, hv⟩, hz⟩ := hV
  refine ⟨⟨_, _, rfl, fun p hp w1 x1 => ⟨F.pool_over_Get, .agg #[.iface t u, .pointer (some ⟨g, 0, none⟩), .int .i64 h], by kernel_rfl, by kernel_rfl, by kernel_rfl, ?_⟩⟩, fun p c hc => ?_⟩
  · replace hG := hG.ext x1
    replace hM : ∀ b ∈ M, b < w1.heap.size := fun b hb => Nat.lt_of_lt_of_le (hM b hb) x1.size
    refine s_pool_over_Get rfl ?_
    unfold k_pool_over_Get
    refine oy ?_
    repeat (first|(refine zD (d := some 2) (cs := [.iface t u, .pointer (some ⟨g, 0, none⟩), .int .i64 h]) rfl rfl (fun b2 w2 x2 a2 (r2 : Row w2 ⟨b2, 0, none⟩ [.iface t u, .pointer (some ⟨g, 0, none⟩), .int .i64 h]) hb2=>?_))|(refine zD (d := some 3) (cs := p.cs) rfl rfl (fun b3 w3 x3 a3 (r3 : Row w3 ⟨b3, 0, none⟩ p.cs) hb3=>?_))|(refine zH (d := some 4) (fun b4 w4 x4 a4 hb4 => ?_); have x14 : Unit → Ext w1 w4 := (fun _ => by exact fx); have h14 : w1.heap.size ≤ b4 := Nat.le_trans (Ext.size (show Ext w1 w3 by exact fx)) hb4)|(first|refine go1 ?_|refine zg (fun _ _=>?_)|refine zi (fun _ _=>?_)))
    obtain ⟨fn, rv, _, hm, hb, hS⟩ := hv p hp w4 (x1.trans (x14 ()))
    refine st_invoke (d := some 17) rfl hm hb rfl hS ?_
    rintro _ w6 ⟨c, rfl, hc, x6⟩
    obtain ⟨bb, hbb⟩ : ∃ bb, (f p).isSome = bb := ⟨_, rfl⟩
    rw [hbb]
    cases bb with
    | true =>
      obtain ⟨d, hf⟩ := Option.isSome_iff_exists.1 hbb
      have e : overV f l h p = some d := by unfold overV; rw [hf]; rfl
      have ec : d = c := by rw [hf] at hc; exact hc
      subst ec
      rw [e]
      repeat (first|refine go1 ?_|refine zg (fun _ _=>?_)|refine zi (fun _ _=>?_))
      refine zE (d' := 6) (fun _=>rfl) rfl rfl rfl (fun b7 w7 x7 a7 (r7 : Row w7 ⟨b7, 0, none⟩ d.cs) hb7=>?_)
      repeat (first|refine go1 ?_|refine zg (fun _ _=>?_)|refine zi (fun _ _=>?_))
      have a7' : At w7 b4 _ := At.ext x7 (At.ext x6 a4)
      have x17 : Ext w1 w7 := (x14 ()).trans (x6.trans x7)
      refine st_setN (w0 := w1) (vs := d.cs) x17 h14 a7' rfl rfl rfl rfl rfl (fun w9 x9 c9 a9 r9 => ?_)
      repeat (first|refine go1 ?_|refine zg (fun _ _=>?_)|refine zi (fun _ _=>?_))
      exact x_ret (ret2 (rv_cell r9 rfl rfl) rv_tmp) ⟨_, rfl, rfl, x9⟩
    | false =>
      have hf : f p = none := by simpa using hbb
      cases ho : outHas l p with
      | false =>
        have e : overV f l h p = none := by unfold overV outAt; rw [ho, hf]; rfl
        rw [e]
        repeat' (first|(refine zC (d := some 26) rfl (out_spec (M := M) (l := l) p hp _ (hG.ext (by exact fx)) (fun b hb => Nat.lt_of_lt_of_le (hM b hb) (Ext.size (by exact fx)))) ?_; rintro _ w5 ⟨o, rfl, ho5, x5⟩; rw [ho])|(refine zE (d' := 6) (fun _=>rfl) rfl rfl rfl (fun b7 w7 x7 a7 (r7 : Row w7 ⟨b7, 0, none⟩ c.cs) hb7=>?_))|(refine zE (d' := 8) (fun _=>rfl) rfl rfl rfl (fun b8 w8 x8 a8 (r8 : Row w8 ⟨b8, 0, none⟩ (outCs o)) hb8=>?_))|(refine st_build (d := some 31) (cs := cZ) rfl ?_)|(first|refine go1 ?_|refine zg (fun _ _=>?_)|refine zi (fun _ _=>?_)))
        refine st_setN (w0 := w1) (vs := cZ) ((x14 ()).trans (x6.trans (x7.trans (x5.trans x8)))) h14 (At.ext x8 (At.ext x5 (At.ext x7 (At.ext x6 a4)))) rfl rfl rfl rfl rfl (fun w9 x9 c9 a9 r9 => ?_)
        repeat (first|refine go1 ?_|refine zg (fun _ _=>?_)|refine zi (fun _ _=>?_))
        exact x_ret (ret2 (rv_cell r9 rfl rfl) rv_tmp) ⟨cn0, rfl, rfl, x9⟩
      | true =>
        repeat' (first|(refine zC (d := some 26) rfl (out_spec (M := M) (l := l) p hp _ (hG.ext (by exact fx)) (fun b hb => Nat.lt_of_lt_of_le (hM b hb) (Ext.size (by exact fx)))) ?_; rintro _ w5 ⟨o, rfl, ho5, x5⟩; rw [ho]; have ho6 := ho5 ho)|(refine zE (d' := 6) (fun _=>rfl) rfl rfl rfl (fun b7 w7 x7 a7 (r7 : Row w7 ⟨b7, 0, none⟩ c.cs) hb7=>?_))|(refine zE (d' := 8) (fun _=>rfl) rfl rfl rfl (fun b8 w8 x8 a8 (r8 : Row w8 ⟨b8, 0, none⟩ (outCs o)) hb8=>?_))|(refine st_build (d := some 35) (cs := Cn.cs ⟨o.v, o.s, h⟩) rfl ?_)|(first|refine go1 ?_|refine zg (fun _ _=>?_)|refine zi (fun _ _=>?_)))
        refine st_setN (w0 := w1) (vs := Cn.cs ⟨o.v, o.s, h⟩) ((x14 ()).trans (x6.trans (x7.trans (x5.trans x8)))) h14 (At.ext x8 (At.ext x5 (At.ext x7 (At.ext x6 a4)))) rfl rfl rfl rfl rfl (fun w9 x9 c9 a9 r9 => ?_)
        repeat (first|refine go1 ?_|refine zg (fun _ _=>?_)|refine zi (fun _ _=>?_))
        have e : overV f l h p = some ⟨o.v, o.s, h⟩ := by
          unfold overV outAt
          rw [hf, if_pos ho]
          show Option.map _ _ = _
          rw [show (getE l p.s).tx.outs[p.i.toNat]? = some o from ho6]; rfl
        rw [e]
        exact x_ret (ret2 (rv_cell r9 rfl rfl) rv_tmp) ⟨_, rfl, rfl, x9⟩
  · unfold overV at hc
    cases hf : f p with
    | some d2 => rw [hf] at hc; cases hc; exact hz p _ hf
    | none => rw [hf] at hc; exact out_size hE hc
end Go.Proofs.YtilhlcnekkkajaaGreat
end
