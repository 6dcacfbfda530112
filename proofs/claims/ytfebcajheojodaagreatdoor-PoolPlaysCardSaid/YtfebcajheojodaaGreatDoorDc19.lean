/- Contracts: the reference's list of entries, with one more or one less; ids of numbers; alike transactions. Plain: what is reached, step by step. Contracts: what hangs on what, by the reference. -/
import Derived.Test.YtfebcajheojodaaGreatDoorDc18
set_option linter.unusedVariables false
set_option linter.unusedSimpArgs false
section
namespace Go.Proofs.YtfebcajheojodaaGreatDoor
open Go Go.K
attribute [local irreducible] regK codeK retK KOp.wp K.Spec u32 leS vnS str zero32 sha2 encT idT sizeT checkT grantB
theorem findI_lt {l:List Ent} {id:ByteArray}:findI l id<l.length:=by
 unfold findI idxOf
 split
 ·rename_i i h
  have:=(List.findIdx?_eq_some_iff_getElem.1 h).1
  omega
 ·omega
theorem Ext.of_eq {w w':World} (h:w'=w):Ext w w':=h▸Ext.refl _
theorem chk_parts {t:Tx} (h:checkT t=0):countsB t=true∧longB t=false∧formedT t=true∧twiceB t=false∧sumE (values t)=0:=by
 unfold checkT at h
 by_cases h1:countsB t=true
 ·by_cases h2:longB t=true
  ·rw [h1,h2] at h;simp at h
  ·by_cases h3:formedT t=true
   ·by_cases h4:twiceB t=true
    ·rw [h1,h3,h4] at h;simp at h;exact absurd h (by split<;>decide)
    ·simp only [Bool.not_eq_true] at h2 h4
     rw [h1,h2,h3,h4] at h
     exact ⟨h1,h2,h3,h4,by simpa using h⟩
   ·simp only [Bool.not_eq_true] at h2 h3
    rw [h1,h2,h3] at h;simp at h
 ·simp only [Bool.not_eq_true] at h1
  rw [h1] at h;simp at h
theorem chk_sm {t:Tx} (h:checkT t=0):t.Sm:=by
 have h1:=(chk_parts h).1
 unfold countsB at h1
 simp only [Bool.and_eq_true,decide_eq_true_eq,Bool.not_eq_true',List.any_eq_false,Int.not_lt,gt_iff_lt] at h1
 exact ⟨by omega,by omega,fun x hx=>by have:=h1.2 x hx;omega⟩
theorem radd_grant {t:Tx} (h:checkT t=0):∃hi:0<t.ins.length,isBase t.ins[0].p=grantB t:=by
 have hp:=chk_parts h
 have h1:=hp.1
 unfold countsB at h1
 simp only [Bool.and_eq_true,decide_eq_true_eq] at h1
 have hi:0<t.ins.length:=by omega
 refine ⟨hi,?_⟩
 unfold grantB
 by_cases hl:t.ins.length=1
 ·rw [decide_eq_true hl,Bool.true_and,headD_0 hi]
 ·rw [decide_eq_false hl,Bool.false_and]
  have h3:=hp.2.2.1
  unfold formedT at h3
  simp only [Bool.not_eq_true',List.any_eq_false] at h3
  have h4:=h3 _ (List.getElem_mem hi)
  unfold badIn at h4
  simp only [Bool.or_eq_true,not_or,Bool.and_eq_true,decide_eq_true_eq,not_and] at h4
  by_cases hb:isBase t.ins[0].p=true
  ·exact absurd (by omega) (h4.2 hb)
  ·simpa using hb
set_option maxHeartbeats 1000000 in
theorem radd_own {M : List Nat} {v : Value} {cs : List Value} {l : List Ent} {t : Tx} (fee : Int) (w : World) (hl : SlR entR M w v l) (ht : txR.rel M w cs t) (hs : t.Sm) (hf : is64 fee) (hn : l.length ≤ 100000) (hE : ∀ x ∈ l, EntOk x) : K.Spec Tryz.prog F.kedgeref14_Add [v, .agg cs.toArray, .int .i64 fee] w fun r w' => ∃ u, r = .tuple #[u, .int .i64 (addG l t fee).2] ∧ ((addG l t fee).2 ≠ 0 ∧ u = v ∧ (addG l t fee).1 = l ∨ OwnR entR T.api_Entry w.heap.size M w' u (addG l t fee).1) ∧ Ext w w' := by
  have ht0 := ht
  obtain ⟨iv, ov, rfl, h1, h2, h3⟩ := ht
  have hq1 := hs.ins
  refine s_kedgeref14_Add rfl ?_
  unfold k_kedgeref14_Add
  refine oy ?_
  repeat' (first|(first|refine go1 ?_|refine zg (fun _ _=>?_)|refine zi (fun _ _=>?_))|(first|refine zD rfl rfl (fun bp wp xp ap rp hp0=>?_)|refine zE (fun _=>rfl) rfl rfl rfl (fun bq wq xq aq rq hq0=>?_))|refine zN (p := checkT t = 0) rfl (fun hc => ?_) (fun hc => ?_)|refine zL (p := findI l (idT t) ≥ 0) rfl (fun hd => ?_) (fun hd => ?_)|refine zL rfl (fun h => ?_) (fun h => ?_)|refine zM (t := isBase _) rfl (fun hg => ?_) (fun hg => ?_)|refine zM rfl (fun hw => ?_) (fun hw => ?_)|refine zG rfl (by exact fx) ?_|(refine zC rfl (rcheck_spec (M := M) _ (cs := txCs t iv ov) (by exact fx) hs) ?_; rintro _ w1 ⟨rfl, x1⟩)|(obtain ⟨hpos, hgr⟩ := radd_grant hc; refine st_elemR (d := some 25) (E := inR) rfl rfl (n := 0) (l := t.ins) (by exact fx) rfl hpos (fun ad cs r4 he => ?_); obtain ⟨wv, rfl, hwi, hp5, hp6⟩ := he; obtain ⟨_, _, rfl⟩ := hwi.form)|(refine zC rfl (rbase_spec t.ins[0].p _) ?_; rintro _ w2 ⟨rfl, x2⟩)|(refine zC rfl (rid_spec (M := M) _ (cs := txCs t iv ov) (by exact fx) (sz_of_check hs hc)) ?_; rintro _ w3 ⟨rfl, x3⟩)|(refine zC rfl (rsize_spec (M := M) _ (cs := txCs t iv ov) (by exact fx) (sz_of_check hs hc)) ?_; rintro _ w6 ⟨rfl, x6⟩)|(refine zC rfl (find_spec (M := M) (l := l) (idT t) _ (by exact fx) (by omega)) ?_; rintro _ w4 ⟨rfl, hw4⟩; have x4 := Ext.of_eq hw4)|(refine c_loopV (fun (i : Nat) w' => Ext wp w' ∧ i ≤ t.ins.length ∧ ∀ j, j < i → ∀ h : j < t.ins.length, (l.any fun x => spends x t.ins[j].p) = false) (fun i => [(0, v), (2, .int .i64 fee), (4, .pointer (some ⟨bp, 0, none⟩)), (11, .string (idT t)), (13, .int .i64 i)]) (fun i => t.ins.length - i) 0 ⟨rfl, rfl, rfl, rfl, rfl, trivial⟩ ⟨by exact fx, by omega, by omega⟩ ?_; rintro i ρ w5 ⟨x5, hi, hk⟩)|(refine st_elemR (d := some 55) (E := inR) rfl rfl (n := i) (l := t.ins) (by exact fx) rfl (by omega) (fun ad cs r4 he => ?_); obtain ⟨wv2, rfl, hwi2, hp7, hp8⟩ := he; obtain ⟨_, _, rfl⟩ := hwi2.form; have hil : i < t.ins.length := (by omega))|(refine zC rfl (rspender_spec (M := M) (l := l) t.ins[i].p _ (by exact fx) (by omega) (fun x hx => by have := (chk_sm (hE x hx).check).ins; omega)) ?_; rintro _ w7 ⟨rfl, x7⟩)|(refine c_loopV (fun (p : Nat × Value) w' => Ext wp w' ∧ p.1 ≤ l.length ∧ OwnR entR T.api_Entry wp.heap.size M w' p.2 (l.take p.1)) (fun p => [(0, v), (2, .int .i64 fee), (4, .pointer (some ⟨bp, 0, none⟩)), (11, .string (idT t)), (14, .int .i64 (sizeT t : Nat)), (15, p.2), (16, .int .i64 p.1)]) (fun p => l.length - p.1) (0, .slice none 0 0) ⟨rfl, rfl, rfl, rfl, rfl, rfl, rfl, trivial⟩ ⟨by exact fx, by simp, by simpa using OwnR.nil _ _ _ _⟩ ?_; rintro ⟨k, vo⟩ ρ8 w8 ⟨x8, hk8, ho⟩; simp only at hk8 ho; dsimp only; have hbo : ∀ b ∈ blkOf vo ++ M, b ∈ M ∨ w.heap.size ≤ b := mem_app (fun b hb => Nat.le_trans xp.size (ho.base b hb)))|(refine st_elemR (d := some 73) (E := entR) (M := blkOf vo ++ M) rfl rfl (n := k) (l := l) (hl.step (by exact fx) (by simp) hbo) rfl (by omega) (fun ad cs r4 he => ?_); have hkl : k < l.length := (by omega); obtain ⟨iv2, ov2, rfl, g1, g2, g3⟩ := he)|(refine zI (d := some 75) rfl (fun b w9 x9 a9 hb => ?_))|(refine st_append1 (d := some 76) (E := entR) (M := M) (v := vo) (cs := entCs l[k] iv2 ov2) (a := l[k]) rfl rfl (ho.ext x9) (Nat.le_trans x8.size x9.size) rfl rfl a9 ⟨iv2, ov2, rfl, g1.ext x9, g2.ext x9, g3⟩ (by have : (l.take k).length ≤ l.length := (by rw [List.length_take]; omega); omega) (fun v10 w10 ho10 c10 hb10 => ?_))|(refine zI (d := some 83) rfl (fun b w11 x11 a11 hb => ?_))|(refine st_append1 (d := some 84) (E := entR) (M := M) (v := vo) (cs := entCs ⟨t, idT t, fee, (sizeT t : Nat)⟩ iv ov) (a := ⟨t, idT t, fee, (sizeT t : Nat)⟩) rfl rfl (ho.ext x11) (Nat.le_trans x8.size x11.size) rfl rfl a11 ⟨iv, ov, rfl, h1.step ((xp.trans x8).trans x11) (by simp) hbo, h2.step ((xp.trans x8).trans x11) (by simp) hbo, h3.1, h3.2, hf, by have := (sz_of_check hs hc).size; show is64 ((sizeT t : Nat) : Int); unfold is64; omega⟩ (by have : (l.take k).length ≤ l.length := (by rw [List.length_take]; omega); omega) (fun v12 w12 ho12 c12 hb12 => ?_)))
  all_goals first
    | exact ⟨i + 1, ⟨rfl, rfl, rfl, rfl, rfl, trivial⟩, ⟨by exact fx, by omega, fun j hj hjl => by
        by_cases hji : j = i
        · subst hji; rw [← any_idx]; exact decide_eq_false h
        · exact hk j (by omega) hjl⟩, by omega⟩
    | exact ⟨(k + 1, v10), ⟨rfl, rfl, rfl, rfl, rfl, rfl, rfl, trivial⟩, ⟨((x8.trans x9).chg c10).mono (fun b hb => .inr (ho.base b hb)), by simp; omega, by show OwnR _ _ _ _ _ _ (l.take (k + 1)); rw [List.take_succ_eq_append_getElem hkl]; exact ho10⟩, by simp; omega⟩
    | (have e : addG l t fee = (l, checkT t) := by rw [addG, if_pos hc]
       rw [e]; exact x_ret rfl ⟨v, rfl, .inl ⟨(by simpa using hc), rfl, rfl⟩, by exact fx⟩)
    | (have e : addG l t fee = (l, 4) := by rw [addG, if_neg (by simpa using hc), if_pos (by rw [← hgr, hg])]
       rw [e]; exact x_ret rfl ⟨v, rfl, .inl ⟨(show (4 : Int) ≠ 0 by decide), rfl, rfl⟩, by exact fx⟩)
    | (have e : addG l t fee = (l, 3) := by rw [addG, if_neg (by simpa using hc), if_neg (by rw [← hgr, hg]; decide), if_pos (by rw [hw])]
       rw [e]; exact x_ret rfl ⟨v, rfl, .inl ⟨(show (3 : Int) ≠ 0 by decide), rfl, rfl⟩, by exact fx⟩)
    | (have e : addG l t fee = (l, 7) := by
         rw [addG, if_neg (by simpa using hc), if_neg (by rw [← hgr, hg]; decide), if_neg (by rw [hw]; decide), if_pos (by rw [← any_idx]; exact decide_eq_true hd)]
       rw [e]; exact x_ret rfl ⟨v, rfl, .inl ⟨(show (7 : Int) ≠ 0 by decide), rfl, rfl⟩, by exact fx⟩)
    | skip
  · have e : addG l t fee = (l, 15) := by
      rw [addG, if_neg (by simpa using hc), if_neg (by rw [← hgr, hg]; decide), if_neg (by rw [hw]; decide), if_neg (by rw [← any_idx, decide_eq_true_eq]; exact hd), if_pos]
      exact any_at (p := fun i : TIn => l.any fun x => spends x i.p) hil (by show (l.any fun x => spends x t.ins[i].p) = true; rw [← any_idx]; exact decide_eq_true h)
    rw [e]; exact x_ret rfl ⟨v, rfl, .inl ⟨show (15 : Int) ≠ 0 by decide, rfl, rfl⟩, by exact fx⟩
  · have e : addG l t fee = (l ++ [⟨t, idT t, fee, (sizeT t : Nat)⟩], 0) := by
      rw [addG, if_neg (by simpa using hc), if_neg (by rw [← hgr, hg]; decide), if_neg (by rw [hw]; decide), if_neg (by rw [← any_idx, decide_eq_true_eq]; exact hd), if_neg]
      rw [Bool.not_eq_true]
      exact any_none (p := fun i : TIn => l.any fun x => spends x i.p) fun j hj => hk j (by omega) hj
    rw [e]
    rw [List.take_of_length_le (by omega)] at ho12
    exact x_ret rfl ⟨v12, rfl, .inr (ho12.lower xp.size), xp.trans (((x8.trans x11).chg c12).mono (fun b hb => .inr (ho.base b hb)))⟩
theorem radd_spec {M:List Nat} {v:Value} {cs:List Value} {l:List Ent} {t:Tx} (fee:Int) (w:World) (hl:SlR entR M w v l) (ht:txR.rel M w cs t) (hs:t.Sm) (hf:is64 fee) (hn:l.length≤100000) (hE:∀x∈l,EntOk x) (hM:∀b∈M,b<w.heap.size):K.Spec Tryz.prog F.kedgeref14_Add [v,.agg cs.toArray,.int .i64 fee] w fun r w'=>∃u,r=.tuple #[u,.int .i64 (addG l t fee).2]∧SlR entR M w' u (addG l t fee).1∧Ext w w':=by
 refine spec_mono (radd_own fee w hl ht hs hf hn hE) fun r w' ⟨u,h1,h2,x⟩=>⟨u,h1,?_,x⟩
 rcases h2 with ⟨_,rfl,e⟩|h
 ·rw [e];exact hl.ext x
 ·exact h.slB hM
end Go.Proofs.YtfebcajheojodaaGreatDoor
end
section
namespace Go.K
open Go
def stepR (base:Nat→Bool) (edge:Nat→Nat→Bool) (n:Nat):Nat→Nat→Bool
 |0,_=>false
 |r+1,i=>base i||(List.range n).any fun k=>stepR base edge n r k&&edge k i
section
variable {base:Nat→Bool} {edge:Nat→Nat→Bool} {n:Nat}
theorem stepR_succ {r i:Nat}:stepR base edge n (r+1) i=true↔base i=true∨∃k,k<n∧stepR base edge n r k=true∧edge k i=true:=by
 simp only [stepR,Bool.or_eq_true,List.any_eq_true,List.mem_range,Bool.and_eq_true]
theorem stepR_mono:∀{r i:Nat},stepR base edge n r i=true→stepR base edge n (r+1) i=true
 |0,_,h=>by simp [stepR] at h
 |r+1,i,h=>by
  rw [stepR_succ] at h ⊢
  rcases h with h|⟨k,h1,h2,h3⟩
  ·exact .inl h
  ·exact .inr ⟨k,h1,stepR_mono h2,h3⟩
theorem stepR_le {r s i : Nat} (h : stepR base edge n r i = true) (hrs : r ≤ s) : stepR base edge n s i = true := by
  induction s with
  | zero => obtain rfl : r = 0 := by omega
            exact h
  | succ s ih =>
    by_cases e : r = s + 1
    · subst e; exact h
    · exact stepR_mono (ih (by omega))
theorem stepR_stop {r:Nat} (hs:∀i,i<n→stepR base edge n (r+1) i=true→stepR base edge n r i=true):∀(d i:Nat),i<n→stepR base edge n (r+d) i=true→stepR base edge n r i=true
 |0,_,_,h=>h
 |d+1,i,hi,h=>by
  refine hs i hi ?_
  rw [show r+(d+1)=(r+d)+1 by omega,stepR_succ] at h
  rw [stepR_succ]
  rcases h with h|⟨k,h1,h2,h3⟩
  ·exact .inl h
  ·exact .inr ⟨k,h1,stepR_stop hs d k h1 h2,h3⟩
def cntR (base:Nat→Bool) (edge:Nat→Nat→Bool) (n r:Nat):Nat:=(List.range n).countP (stepR base edge n r)
theorem countP_lt {α:Type} {p q:α→Bool} {a:α}:∀{l:List α},(∀x∈l,p x=true→q x=true)→a∈l→p a=false→q a=true→l.countP p<l.countP q
 |x::l,h,ha,h1,h2=>by
  have hl:l.countP p≤l.countP q:=List.countP_mono_left fun y hy=>h y (by simp [hy])
  rw [List.countP_cons,List.countP_cons]
  rcases List.mem_cons.1 ha with rfl|ha
  ·rw [h1,h2];simp;omega
  ·have ih:=countP_lt (fun y hy=>h y (by simp [hy])) ha h1 h2
   have:=h x (by simp)
   by_cases hp:p x=true
   ·rw [hp,this hp];simp;omega
   ·simp only [Bool.not_eq_true] at hp
    rw [hp];simp;omega
theorem stepR_grow (r:Nat):(∃s,s≤r∧∀i,i<n→stepR base edge n (s+1) i=true→stepR base edge n s i=true)∨r+1≤cntR base edge n (r+1):=by
 induction r with
 |zero=>
  by_cases h:∃i,i<n∧stepR base edge n 1 i=true
  ·obtain ⟨i,h1,h2⟩:=h
   refine .inr ?_
   unfold cntR
   exact List.countP_pos_iff.2 ⟨i,by simpa using h1,h2⟩
  ·exact .inl ⟨0,Nat.le_refl _,fun i hi hs=>absurd ⟨i,hi,hs⟩ h⟩
 |succ r ih=>
  rcases ih with ⟨s,h1,h2⟩|ih
  ·exact .inl ⟨s,by omega,h2⟩
  ·by_cases h:∃i,i<n∧stepR base edge n (r+2) i=true∧stepR base edge n (r+1) i=false
   ·obtain ⟨i,h1,h2,h3⟩:=h
    refine .inr (Nat.lt_of_le_of_lt ih ?_)
    unfold cntR
    exact countP_lt (fun x _=>stepR_mono) (by simpa using h1) h3 h2
   ·refine .inl ⟨r+1,Nat.le_refl _,fun i hi hs=>?_⟩
    by_cases h4:stepR base edge n (r+1) i=true
    ·exact h4
    ·exact absurd ⟨i,hi,hs,by simpa using h4⟩ h
theorem stepR_all {r i:Nat} (hi:i<n) (h:stepR base edge n r i=true):stepR base edge n n i=true:=by
 rcases stepR_grow (base:=base) (edge:=edge) (n:=n) n with ⟨s,h1,h2⟩|h1
 ·rcases Nat.lt_or_ge r s with h3|h3
  ·exact stepR_le h (by omega)
  ·have:=stepR_stop h2 (r - s) i hi (by rwa [show s+(r - s)=r by omega])
   exact stepR_le this h1
 ·have:cntR base edge n (n+1)≤n:=by
   unfold cntR
   exact Nat.le_trans List.countP_le_length (by simp)
  omega
theorem stepR_closed {k i:Nat} (hi:i<n) (hk:k<n) (h:stepR base edge n n k=true) (he:edge k i=true):stepR base edge n n i=true:=
 stepR_all (r:=n+1) hi (stepR_succ.2 (.inr ⟨k,hk,h,he⟩))
theorem stepR_base {i:Nat} (hi:i<n) (h:base i=true):stepR base edge n n i=true:=stepR_all (r:=1) hi (stepR_succ.2 (.inl h))
theorem stepR_least {p:Nat→Prop} (hb:∀i,i<n→base i=true→p i) (he:∀k i,k<n→i<n→p k→edge k i=true→p i):∀(r i:Nat),i<n→stepR base edge n r i=true→p i
 |0,_,_,h=>by simp [stepR] at h
 |r+1,i,hi,h=>by
  rcases stepR_succ.1 h with h|⟨k,h1,h2,h3⟩
  ·exact hb i hi h
  ·exact he k i h1 hi (stepR_least hb he r k h1 h2) h3
end
def reachL (base:Nat→Bool) (edge:Nat→Nat→Bool) (n:Nat):List Bool:=(List.range n).map (stepR base edge n n)
theorem reachL_length (base:Nat→Bool) (edge:Nat→Nat→Bool) (n:Nat):(reachL base edge n).length=n:=by simp [reachL]
def entD (l:List Ent) (i:Nat):Ent:=l.getD i default
def hangE (l:List Ent) (k i:Nat):Bool:=hangs (entD l k).tx (entD l i)
def aboveL (l:List Ent) (t:Tx):List Bool:=reachL (fun i=>hangs t (entD l i)) (hangE l) l.length
def belowL (l:List Ent) (id:ByteArray):List Bool:=reachL (fun i=>decide ((i:Int)=findI l id)) (fun k i=>hangE l i k) l.length
theorem entD_get {l:List Ent} {i:Nat} (h:i<l.length):entD l i=l[i]:=by unfold entD;rw [List.getD_eq_getElem?_getD,List.getElem?_eq_getElem h];rfl
structure Marks (base:Nat→Bool) (edge:Nat→Nat→Bool) (n:Nat) (m:List Bool):Prop where
 len:m.length=n
 sound:∀i (h:i<m.length),m[i]=true→stepR base edge n n i=true
def has (m:List Bool) (i:Nat):Prop:=m[i]? =some true
theorem has_set {m:List Bool} {i j:Nat} {x:Bool} (hi:i<m.length) (h:has m j):has (m.set i (m[i]||x)) j:=by
 unfold has at*
 rw [List.getElem?_set]
 split
 ·rename_i e
  subst e
  rw [List.getElem?_eq_getElem hi] at h
  simp at h
  rw [h];rfl
 ·exact h
theorem has_new {m:List Bool} {i:Nat} {x:Bool} (hi:i<m.length) (hx:x=true):has (m.set i (m[i]||x)) i:=by
 unfold has
 rw [List.getElem?_set_self hi,hx,Bool.or_true]
section
variable {base:Nat→Bool} {edge:Nat→Nat→Bool} {n:Nat} {m:List Bool}
theorem Marks.set {i:Nat} {x:Bool} (h:Marks base edge n m) (hi:i<m.length) (hx:x=true→stepR base edge n n i=true):Marks base edge n (m.set i (m[i]||x)):=by
 refine ⟨by rw [List.length_set];exact h.len,fun j hj hm=>?_⟩
 rw [List.getElem_set] at hm
 split at hm
 ·rename_i e;subst e
  rcases Bool.or_eq_true_iff.1 hm with h1|h1
  ·exact h.sound _ hi h1
  ·exact hx h1
 ·exact h.sound j (by simpa using hj) hm
theorem Marks.done (h:Marks base edge n m) (hc:∀i,i<n→stepR base edge n n i=true→has m i):m=reachL base edge n:=by
 have hl:=h.len
 apply List.ext_getElem
 ·rw [reachL_length];exact hl
 ·intro i h1 h2
  simp only [reachL,List.getElem_map,List.getElem_range]
  rw [Bool.eq_iff_iff]
  refine ⟨h.sound i h1,fun hs=>?_⟩
  have:=hc i (by omega) hs
  unfold has at this
  rw [List.getElem?_eq_getElem h1] at this
  simpa using this
end
end Go.K
end
section
namespace Go.Proofs.YtfebcajheojodaaGreatDoor
open Go Go.K
theorem bool_flat (m:List Bool):boolE.flat m=m.map Value.bool:=by
 induction m with
 |nil=>rfl
 |cons x l ih=>simp only [Enc.flat,List.flatMap_cons] at ih ⊢;rw [ih];rfl
abbrev AtB (w:World) (b:Nat) (m:List Bool):Prop:=At w b (.cells (m.map Value.bool).toArray T.bool (0,0))
theorem AtB.sl {w:World} {b n:Nat} {m:List Bool} (h:AtB w b m) (hn:n=m.length):SlE boolE w (.slice (some ⟨b,0,none⟩) n n) m:=
 SlE.new (E:=boolE) (by rw [bool_flat];exact h) hn (Nat.le_refl _)
section
variable {P:Program} {d:Option Tmp} {r:KR} {K:Env→World→Prop} {ρ:Env} {w:World}
theorem zeros_bool (n:Nat):zeros [Value.bool false] n=(List.replicate n false).map Value.bool:=by
 induction n with
 |zero=>rfl
 |succ n ih=>rw [zeros,ih];rfl
theorem st_mkBool {x y:Operand} {t:TypeId} {n:Nat} (hx:ev ρ x=.int .i64 (n:Nat)) (hy:ev ρ y=.int .i64 (n:Nat)) (hn:n≤1000000)
  (k:∀b w',Ext w w'→At w' b (.cells ((List.replicate n false).map Value.bool).toArray t (0,0))→w.heap.size≤b→regK P r K (put ρ d (.slice (some ⟨b,0,none⟩) n n)) w'):regK P (.cons ⟨d,.makeSlice t 1 1 [.bool false] x y,none⟩ r) K ρ w:=
 st_wp ⟨_,_,_,_,hx,hy,by omega,by omega,by omega,by omega,by
  rw [Int.toNat_natCast,zeros_bool]
  exact k _ _ (Ext.alloc _ _) (At.new _ _) (Nat.le_refl _)⟩
theorem st_storeB {x y:Operand} {b o:Nat} {t:TypeId} {m:List Bool} {v:Bool} (hx:ev ρ x=.pointer (some (Addr.add ⟨b,0,none⟩ (o*1)))) (hy:ev ρ y=.bool v) (h:At w b (.cells (m.map Value.bool).toArray t (0,0))) (hl:o<m.length)
  (k:∀w',Chg [b] w w'→At w' b (.cells ((m.set o v).map Value.bool).toArray t (0,0))→regK P r K (put ρ d undef) w'):regK P (.cons ⟨d,.store x y,none⟩ r) K ρ w:=
 st_store (o:=o) (by rw [hx,Nat.mul_one]) hy rfl h (by simpa using hl) fun w' c a=>k w' c (by rw [List.map_set];exact a)
end
attribute [local irreducible] regK codeK retK KOp.wp K.Spec u32 leS vnS str zero32 sha2 encT idT sizeT checkT grantB idN hangs stepR
structure RInv (base:Nat→Bool) (edge:Nat→Nat→Bool) (n r i:Nat) (m:List Bool):Prop where
 mks:Marks base edge n m
 all:∀j,j<n→stepR base edge n r j=true→has m j
 now:∀j,j<i→j<n→stepR base edge n (r+1) j=true→has m j
section
variable {base:Nat→Bool} {edge:Nat→Nat→Bool} {n r i:Nat} {m:List Bool}
theorem RInv.zero (h:Marks base edge n m):RInv base edge n 0 0 m:=⟨h,fun j _ hj=>(by unfold stepR at hj;cases hj),fun j hj=>absurd hj (by omega)⟩
theorem RInv.round (h:RInv base edge n r i m) (hi:n≤i):RInv base edge n (r+1) 0 m:=⟨h.mks,fun j hj hs=>h.now j (by omega) hj hs,fun j hj=>absurd hj (by omega)⟩
theorem RInv.set {j:Nat} {x:Bool} (h:RInv base edge n r i m) (hj:j<m.length) (hx:x=true→stepR base edge n n j=true):RInv base edge n r i (m.set j (m[j]||x)):=
 ⟨h.mks.set hj hx,fun q hq hs=>has_set hj (h.all q hq hs),fun q hq hn hs=>has_set hj (h.now q hq hn hs)⟩
theorem RInv.next (h:RInv base edge n r i m) (hb:base i=true→has m i) (he:∀k,k<n→stepR base edge n r k=true→edge k i=true→has m i):RInv base edge n r (i+1) m:=
 ⟨h.mks,h.all,fun q hq hn hs=>by
  by_cases e:q=i
  ·subst e
   rcases stepR_succ.1 hs with h1|⟨k,h1,h2,h3⟩
   ·exact hb h1
   ·exact he k h1 h2 h3
  ·exact h.now q (by omega) hn hs⟩
theorem has_get {j:Nat} (h:has m j) (hj:j<m.length):m[j]=true:=by
 unfold has at h;rw [List.getElem?_eq_getElem hj] at h;simpa using h
end
theorem marks_new (base:Nat→Bool) (edge:Nat→Nat→Bool) (n:Nat):Marks base edge n (List.replicate n false):=⟨by simp,fun i h hm=>by simp at hm⟩
set_option maxHeartbeats 2000000 in
theorem above_spec {M : List Nat} {v : Value} {cs : List Value} {l : List Ent} {t : Tx} (w : World) (hl : SlR entR M w v l) (ht : txR.rel M w cs t) (hs : t.Sm) (hn : l.length ≤ 1000) (hE : ∀ x ∈ l, x.tx.Sm) : K.Spec Tryz.prog F.kedgeref14_Above [v, .agg cs.toArray] w fun r w' => SlE boolE w' r (aboveL l t) ∧ Ext w w' ∧ ∀ b ∈ blkOf r, w.heap.size ≤ b := by
  have ht0 := ht
  obtain ⟨iv, ov, rfl, h1, h2, h3⟩ := ht
  have hq := hs.ins
  have hqe : ∀ x ∈ l, x.tx.ins.length ≤ 1000 := fun x hx => (hE x hx).ins
  refine s_kedgeref14_Above rfl ?_
  unfold k_kedgeref14_Above
  refine oy ?_
  repeat' (first|(first|refine go1 ?_|refine zg (fun _ _=>?_)|refine zi (fun _ _=>?_))|(first|refine zD rfl rfl (fun bp wp xp ap rp hp0=>?_)|refine zE (fun _=>rfl) rfl rfl rfl (fun bq wq xq aq rq hq0=>?_))|refine zL rfl (fun h => ?_) (fun h => ?_)|refine zK (d := some 38) rfl (fun hmi => ?_) (fun hmi => ?_)|refine zK (d := some 64) rfl (fun hmi => ?_) (fun hmi => ?_)|refine zK (d := some 69) rfl (fun hmk => ?_) (fun hmk => ?_)|(refine zG (E := entR) (M := M) (l := l) rfl (SlR.ext hl (by exact fx)) ?_)|(refine st_mkBool rfl rfl (by omega) (fun b w2 x2 a2 hb2 => ?_))|(refine c_loopV (fun (p : Nat × List Bool) w' => Ext wp w' ∧ p.1 ≤ l.length + 1 ∧ AtB w' b p.2 ∧ RInv (fun i => hangs t (entD l i)) (hangE l) l.length p.1 0 p.2) (fun p => [(0, v), (3, .pointer (some ⟨bp, 0, none⟩)), (5, .slice (some ⟨b, 0, none⟩) l.length l.length), (6, .int .i64 p.1)]) (fun p => l.length + 1 - p.1) (0, List.replicate l.length false) ⟨rfl, rfl, rfl, rfl, trivial⟩ ⟨by exact fx, by simp, a2, RInv.zero (marks_new _ _ _)⟩ ?_; rintro ⟨r, m⟩ ρ w3 ⟨x3, hr, a3, hI⟩; simp only at hr a3 hI; dsimp only)|(refine c_loopV (fun (p : Nat × List Bool) w' => Ext wp w' ∧ p.1 ≤ l.length ∧ AtB w' b p.2 ∧ RInv (fun i => hangs t (entD l i)) (hangE l) l.length r p.1 p.2) (fun p => [(0, v), (3, .pointer (some ⟨bp, 0, none⟩)), (5, .slice (some ⟨b, 0, none⟩) l.length l.length), (6, .int .i64 r), (7, .int .i64 p.1)]) (fun p => l.length - p.1) (0, m) ⟨rfl, rfl, rfl, rfl, rfl, trivial⟩ ⟨by exact fx, by simp, by focus (repeat (first | assumption | (apply At.ext; assumption))), hI⟩ ?_; clear a3 hI x3; clear m; rintro ⟨i, m⟩ ρ4 w4 ⟨x4, hi, a4, hI⟩; simp only at hi a4 hI; dsimp only)|(refine st_elemR (d := some 28) (E := entR) (M := M) rfl rfl (n := i) (l := l) (SlR.ext hl (by exact fx)) rfl (by omega) (fun ad cs r5 he => ?_); have hil : i < l.length := (by omega))|(refine st_lN0 (d := some 29) (n := 7) (l := cs) rfl r5 (by rw [entR.len he]; exact Nat.le_refl _) (List.take_of_length_le (by rw [entR.len he]; exact Nat.le_refl _)) ?_)|(refine zC rfl (hangs_spec (M := M) (cs := txCs t iv ov) (x := l[i]) _ (by exact fx) he (by omega)) ?_; rintro _ w5 ⟨rfl, x5⟩)|(refine st_elemE (d := some 35) (E := boolE) rfl rfl (n := i) (l := m) (AtB.sl (by focus (repeat (first | assumption | (apply At.ext; assumption)))) (hI.mks.len).symm) rfl (by have := hI.mks.len; omega) (fun ad r6 => ?_))|(refine st_index (d := some 40) rfl rfl (by omega) ?_))
  · refine st_storeB (m := m) (o := i) (v := (m[i]'(by have := hI.mks.len; omega) || hangs t l[i])) rfl (congrArg Value.bool (by rw [hmi]; rfl)) (by focus (repeat (first | assumption | (apply At.ext; assumption)))) (by have := hI.mks.len; omega) (fun w6 c6 a6 => ?_)
    have hml := hI.mks.len
    have x6 : Unit → Ext wp w6 := fun _ => (Ext.chg (w := wp) (by exact fx) c6).mono (by intro y hy; simp at hy; right; have := x2.size; omega)
    have hJ := hI.set (j := i) (x := hangs t l[i]) (by omega) (fun hh => stepR_base hil (by rw [entD_get hil]; exact hh))
    have hB : (hangs t (entD l i) = true → has (m.set i (m[i] || hangs t l[i])) i) := fun hh => has_new (by omega) (by rw [entD_get hil] at hh; exact hh)
    revert a6 hJ hB
    generalize m.set i (m[i] || hangs t l[i]) = m6
    intro a6 hJ hB
    repeat' (first|(first|refine go1 ?_|refine zg (fun _ _=>?_)|refine zi (fun _ _=>?_))|refine zL rfl (fun h => ?_) (fun h => ?_)|refine zK (d := some 64) rfl (fun hmi => ?_) (fun hmi => ?_)|refine zK (d := some 69) rfl (fun hmk => ?_) (fun hmk => ?_)|(refine zG (E := entR) (M := M) (l := l) rfl (SlR.ext hl (by exact fx)) ?_)|(refine c_loopV (fun (p : Nat × List Bool) w' => Ext wp w' ∧ p.1 ≤ l.length ∧ AtB w' b p.2 ∧ RInv (fun i => hangs t (entD l i)) (hangE l) l.length r i p.2 ∧ (hangs t (entD l i) = true → has p.2 i) ∧ ∀ k, k < p.1 → stepR (fun i => hangs t (entD l i)) (hangE l) l.length r k = true → hangE l k i = true → has p.2 i) (fun p => [(0, v), (3, .pointer (some ⟨bp, 0, none⟩)), (5, .slice (some ⟨b, 0, none⟩) l.length l.length), (6, .int .i64 r), (7, .int .i64 i), (9, .int .i64 p.1)]) (fun p => l.length - p.1) (0, m6) ⟨rfl, rfl, rfl, rfl, rfl, rfl, trivial⟩ ⟨x6 (), by simp, a6, hJ, hB, fun k hk => absurd hk (by simp)⟩ ?_; rintro ⟨k, m7⟩ ρ7 w7 ⟨x7, hk, a7, hK, hB7, hE7⟩; simp only at hk a7 hK hB7 hE7; dsimp only; have hml7 := hK.mks.len)|(refine st_elemR (d := some 49) (E := entR) (M := M) rfl rfl (n := k) (l := l) (SlR.ext hl (by exact fx)) rfl (by omega) (fun ad cs r5 he => ?_); obtain ⟨iv2, ov2, rfl, g1, g2, g3⟩ := he; have hkl : k < l.length := (by omega))|(refine st_elemR (d := some 54) (E := entR) (M := M) rfl rfl (n := i) (l := l) (SlR.ext hl (by exact fx)) rfl hil (fun ad cs r8 he => ?_))|(refine st_lN0 (d := some 55) (n := 7) (l := cs) rfl r8 (by rw [entR.len he]; exact Nat.le_refl _) (List.take_of_length_le (by rw [entR.len he]; exact Nat.le_refl _)) ?_)|(refine zC rfl (hangs_spec (M := M) (cs := txCs l[k].tx iv2 ov2) (t := l[k].tx) (x := l[i]) _ ⟨iv2, ov2, rfl, by exact fx, by exact fx, g3.1, g3.2.1⟩ he (by have := hqe _ (List.getElem_mem hkl); omega)) ?_; rintro _ w8 ⟨rfl, x8⟩)|(refine st_elemE (d := some 61) (E := boolE) rfl rfl (n := i) (l := m7) (AtB.sl (by focus (repeat (first | assumption | (apply At.ext; assumption)))) hml7.symm) rfl (by omega) (fun ad r6 => ?_))|(refine st_elemE (d := some 66) (E := boolE) rfl rfl (n := k) (l := m7) (AtB.sl (by focus (repeat (first | assumption | (apply At.ext; assumption)))) hml7.symm) rfl (by omega) (fun ad r6 => ?_))|(refine st_index (d := some 72) rfl rfl (by omega) ?_)|(refine st_storeB (m := m7) (o := i) (v := (m7[i]'(by omega) || (m7[k]'(by omega) && hangs l[k].tx l[i]))) rfl (congrArg Value.bool (by first | (rw [hmi]; rfl) | (rw [hmi, hmk]; rfl) | (rw [hmi, hmk]; simp))) (by focus (repeat (first | assumption | (apply At.ext; assumption)))) (by omega) (fun w9 c9 a9 => ?_)))
    all_goals first
      | (have hx7 : Unit → Ext wp w9 := fun _ => (Ext.chg (w := wp) (by exact fx) c9).mono (by intro y hy; simp at hy; right; have := x2.size; omega)
         have he : hangE l k i = hangs l[k].tx l[i] := by rw [hangE, entD_get hkl, entD_get hil]
         have hx : (m7[k] && hangs l[k].tx l[i]) = true → stepR (fun i => hangs t (entD l i)) (hangE l) l.length l.length i = true := fun hh => by
           rw [Bool.and_eq_true] at hh
           exact stepR_closed hil hkl (hK.mks.sound k (by omega) hh.1) (by rw [he]; exact hh.2)
         exact ⟨(k + 1, _), ⟨rfl, rfl, rfl, rfl, rfl, rfl, trivial⟩, ⟨hx7 (), by simp; omega, a9, hK.set (by omega) hx, fun hh => has_set (by omega) (hB7 hh), fun q hq hs2 hh => by
           by_cases e : q = k
           · subst e
             exact has_new (by omega) (by rw [Bool.and_eq_true]; exact ⟨has_get (hK.all q hkl hs2) (by omega), by rw [← he]; exact hh⟩)
           · exact has_set (by omega) (hE7 q (by simp at hq; omega) hs2 hh)⟩, by simp; omega⟩)
      | exact ⟨(i + 1, m7), ⟨rfl, rfl, rfl, rfl, rfl, trivial⟩, ⟨by exact fx, by simp; omega, by focus (repeat (first | assumption | (apply At.ext; assumption))), hK.next hB7 (fun q hq => hE7 q (by omega))⟩, by simp; omega⟩
      | trace_state
  · refine st_storeB (m := m) (o := i) (v := (m[i]'(by have := hI.mks.len; omega) || hangs t l[i])) rfl (congrArg Value.bool (by rw [hmi]; rfl)) (by focus (repeat (first | assumption | (apply At.ext; assumption)))) (by have := hI.mks.len; omega) (fun w6 c6 a6 => ?_)
    have hml := hI.mks.len
    have x6 : Unit → Ext wp w6 := fun _ => (Ext.chg (w := wp) (by exact fx) c6).mono (by intro y hy; simp at hy; right; have := x2.size; omega)
    have hJ := hI.set (j := i) (x := hangs t l[i]) (by omega) (fun hh => stepR_base hil (by rw [entD_get hil]; exact hh))
    have hB : (hangs t (entD l i) = true → has (m.set i (m[i] || hangs t l[i])) i) := fun hh => has_new (by omega) (by rw [entD_get hil] at hh; exact hh)
    revert a6 hJ hB
    generalize m.set i (m[i] || hangs t l[i]) = m6
    intro a6 hJ hB
    repeat' (first|(first|refine go1 ?_|refine zg (fun _ _=>?_)|refine zi (fun _ _=>?_))|refine zL rfl (fun h => ?_) (fun h => ?_)|refine zK (d := some 64) rfl (fun hmi => ?_) (fun hmi => ?_)|refine zK (d := some 69) rfl (fun hmk => ?_) (fun hmk => ?_)|(refine zG (E := entR) (M := M) (l := l) rfl (SlR.ext hl (by exact fx)) ?_)|(refine c_loopV (fun (p : Nat × List Bool) w' => Ext wp w' ∧ p.1 ≤ l.length ∧ AtB w' b p.2 ∧ RInv (fun i => hangs t (entD l i)) (hangE l) l.length r i p.2 ∧ (hangs t (entD l i) = true → has p.2 i) ∧ ∀ k, k < p.1 → stepR (fun i => hangs t (entD l i)) (hangE l) l.length r k = true → hangE l k i = true → has p.2 i) (fun p => [(0, v), (3, .pointer (some ⟨bp, 0, none⟩)), (5, .slice (some ⟨b, 0, none⟩) l.length l.length), (6, .int .i64 r), (7, .int .i64 i), (9, .int .i64 p.1)]) (fun p => l.length - p.1) (0, m6) ⟨rfl, rfl, rfl, rfl, rfl, rfl, trivial⟩ ⟨x6 (), by simp, a6, hJ, hB, fun k hk => absurd hk (by simp)⟩ ?_; rintro ⟨k, m7⟩ ρ7 w7 ⟨x7, hk, a7, hK, hB7, hE7⟩; simp only at hk a7 hK hB7 hE7; dsimp only; have hml7 := hK.mks.len)|(refine st_elemR (d := some 49) (E := entR) (M := M) rfl rfl (n := k) (l := l) (SlR.ext hl (by exact fx)) rfl (by omega) (fun ad cs r5 he => ?_); obtain ⟨iv2, ov2, rfl, g1, g2, g3⟩ := he; have hkl : k < l.length := (by omega))|(refine st_elemR (d := some 54) (E := entR) (M := M) rfl rfl (n := i) (l := l) (SlR.ext hl (by exact fx)) rfl hil (fun ad cs r8 he => ?_))|(refine st_lN0 (d := some 55) (n := 7) (l := cs) rfl r8 (by rw [entR.len he]; exact Nat.le_refl _) (List.take_of_length_le (by rw [entR.len he]; exact Nat.le_refl _)) ?_)|(refine zC rfl (hangs_spec (M := M) (cs := txCs l[k].tx iv2 ov2) (t := l[k].tx) (x := l[i]) _ ⟨iv2, ov2, rfl, by exact fx, by exact fx, g3.1, g3.2.1⟩ he (by have := hqe _ (List.getElem_mem hkl); omega)) ?_; rintro _ w8 ⟨rfl, x8⟩)|(refine st_elemE (d := some 61) (E := boolE) rfl rfl (n := i) (l := m7) (AtB.sl (by focus (repeat (first | assumption | (apply At.ext; assumption)))) hml7.symm) rfl (by omega) (fun ad r6 => ?_))|(refine st_elemE (d := some 66) (E := boolE) rfl rfl (n := k) (l := m7) (AtB.sl (by focus (repeat (first | assumption | (apply At.ext; assumption)))) hml7.symm) rfl (by omega) (fun ad r6 => ?_))|(refine st_index (d := some 72) rfl rfl (by omega) ?_)|(refine st_storeB (m := m7) (o := i) (v := (m7[i]'(by omega) || (m7[k]'(by omega) && hangs l[k].tx l[i]))) rfl (congrArg Value.bool (by first | (rw [hmi]; rfl) | (rw [hmi, hmk]; rfl) | (rw [hmi, hmk]; simp))) (by focus (repeat (first | assumption | (apply At.ext; assumption)))) (by omega) (fun w9 c9 a9 => ?_)))
    all_goals first
      | (have hx7 : Unit → Ext wp w9 := fun _ => (Ext.chg (w := wp) (by exact fx) c9).mono (by intro y hy; simp at hy; right; have := x2.size; omega)
         have he : hangE l k i = hangs l[k].tx l[i] := by rw [hangE, entD_get hkl, entD_get hil]
         have hx : (m7[k] && hangs l[k].tx l[i]) = true → stepR (fun i => hangs t (entD l i)) (hangE l) l.length l.length i = true := fun hh => by
           rw [Bool.and_eq_true] at hh
           exact stepR_closed hil hkl (hK.mks.sound k (by omega) hh.1) (by rw [he]; exact hh.2)
         exact ⟨(k + 1, _), ⟨rfl, rfl, rfl, rfl, rfl, rfl, trivial⟩, ⟨hx7 (), by simp; omega, a9, hK.set (by omega) hx, fun hh => has_set (by omega) (hB7 hh), fun q hq hs2 hh => by
           by_cases e : q = k
           · subst e
             exact has_new (by omega) (by rw [Bool.and_eq_true]; exact ⟨has_get (hK.all q hkl hs2) (by omega), by rw [← he]; exact hh⟩)
           · exact has_set (by omega) (hE7 q (by simp at hq; omega) hs2 hh)⟩, by simp; omega⟩)
      | exact ⟨(i + 1, m7), ⟨rfl, rfl, rfl, rfl, rfl, trivial⟩, ⟨by exact fx, by simp; omega, by focus (repeat (first | assumption | (apply At.ext; assumption))), hK.next hB7 (fun q hq => hE7 q (by omega))⟩, by simp; omega⟩
      | trace_state
  all_goals first
    | exact ⟨(r + 1, m), ⟨rfl, rfl, rfl, rfl, trivial⟩, ⟨by exact fx, by simp; omega, by focus (repeat (first | assumption | (apply At.ext; assumption))), hI.round (by omega)⟩, by simp; omega⟩
    | skip
  · have hd := hI.mks.done (fun q hq hs2 => hI.all q hq (stepR_le hs2 (by omega)))
    subst hd
    exact x_ret rfl ⟨AtB.sl (by focus (repeat (first | assumption | (apply At.ext; assumption)))) (reachL_length _ _ _).symm, by exact fx, by intro y hy; have hy : y ∈ [b] := hy; simp at hy; have := xp.size; omega⟩
end Go.Proofs.YtfebcajheojodaaGreatDoor
end
