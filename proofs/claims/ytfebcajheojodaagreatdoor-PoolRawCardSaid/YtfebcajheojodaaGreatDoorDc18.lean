/- Plain: entries that hang on one another. Contracts: the reference's list of entries. Contracts: ids of numbers; alike transactions; counts. Plain: transactions as small numbers. Contracts: transactions made of small numbers. Contracts: transactions cut to a size. -/
import Derived.Test.YtfebcajheojodaaGreatDoorDc17
set_option linter.unusedVariables false
set_option linter.unusedSimpArgs false
section
namespace Go.K
open Go
def findI (l:List Ent) (id:ByteArray):Int:=idxOf (fun x=>decide (x.id=id)) l
def spends (x:Ent) (p:Pt):Bool:=x.tx.ins.any fun i=>decide (i.p=p)
def spendI (l:List Ent) (p:Pt):Int:=idxOf (fun x=>spends x p) l
def hangs (t:Tx) (x:Ent):Bool:=t.ins.any fun i=>decide (i.p.s=x.id)&&decide (i.p.i<(x.tx.outs.length:Int))
def idsOf:List Ent→List Bool→List ByteArray
 |x::l,b::m=>if b then x.id::idsOf l m else idsOf l m
 |_,_=> []
def feeOf:List Ent→List Bool→Int
 |x::l,b::m=>(if b then x.fee else 0)+feeOf l m
 |_,_=>0
def szOf:List Ent→List Bool→Int
 |x::l,b::m=>(if b then x.size else 0)+szOf l m
 |_,_=>0
def dropG (l:List Ent) (id:ByteArray):List Ent × Int:=if findI l id<0 then (l,8) else (l.eraseIdx (findI l id).toNat,0)
def addG (l:List Ent) (t:Tx) (fee:Int):List Ent × Int:=
 if checkT t≠0 then (l,checkT t) else if grantB t then (l,4) else if !goodB fee then (l,3) else if l.any (fun x=>decide (x.id=idT t)) then (l,7)
 else if t.ins.any (fun i=>l.any fun x=>spends x i.p) then (l,15) else (l++ [⟨t,idT t,fee,(sizeT t:Nat)⟩],0)
theorem idsOf_append {l l':List Ent} {m m':List Bool} (h:l.length=m.length):idsOf (l++l') (m++m')=idsOf l m++idsOf l' m':=by
 induction l generalizing m with
 |nil=>cases m with
  |nil=>cases l'<;>cases m'<;>rfl
  |cons=>simp at h
 |cons x l ih=>cases m with
  |nil=>simp at h
  |cons b m=>
   have:=ih (m:=m) (by simpa using h)
   simp only [List.cons_append,idsOf,this];split<;>rfl
theorem feeOf_append {l l':List Ent} {m m':List Bool} (h:l.length=m.length):feeOf (l++l') (m++m')=feeOf l m+feeOf l' m':=by
 induction l generalizing m with
 |nil=>cases m with
  |nil=>cases l'<;>cases m'<;>simp [feeOf]
  |cons=>simp at h
 |cons x l ih=>cases m with
  |nil=>simp at h
  |cons b m=>
   have:=ih (m:=m) (by simpa using h)
   simp only [List.cons_append,feeOf,this];omega
theorem szOf_append {l l':List Ent} {m m':List Bool} (h:l.length=m.length):szOf (l++l') (m++m')=szOf l m+szOf l' m':=by
 induction l generalizing m with
 |nil=>cases m with
  |nil=>cases l'<;>cases m'<;>simp [szOf]
  |cons=>simp at h
 |cons x l ih=>cases m with
  |nil=>simp at h
  |cons b m=>
   have:=ih (m:=m) (by simpa using h)
   simp only [List.cons_append,szOf,this];omega
section
variable {l:List Ent} {m:List Bool} (h:l.length=m.length) {i:Nat} (hi:i<l.length)
include h hi
theorem idsOf_take:idsOf (l.take (i+1)) (m.take (i+1))=idsOf (l.take i) (m.take i)++(if m[i]'(h▸hi) then [l[i].id] else []):=by
 rw [List.take_succ_eq_append_getElem hi,List.take_succ_eq_append_getElem (h▸hi),idsOf_append (by simp [h])]
 simp only [idsOf]
theorem feeOf_take:feeOf (l.take (i+1)) (m.take (i+1))=feeOf (l.take i) (m.take i)+(if m[i]'(h▸hi) then l[i].fee else 0):=by
 rw [List.take_succ_eq_append_getElem hi,List.take_succ_eq_append_getElem (h▸hi),feeOf_append (by simp [h])]
 simp [feeOf]
theorem szOf_take:szOf (l.take (i+1)) (m.take (i+1))=szOf (l.take i) (m.take i)+(if m[i]'(h▸hi) then l[i].size else 0):=by
 rw [List.take_succ_eq_append_getElem hi,List.take_succ_eq_append_getElem (h▸hi),szOf_append (by simp [h])]
 simp [szOf]
end
theorem idsOf_length:∀(l:List Ent) (m:List Bool),(idsOf l m).length≤l.length
 | [],_=>by simp [idsOf]
 |_::_, []=>by simp [idsOf]
 |x::l,b::m=>by
  have:=idsOf_length l m
  simp only [idsOf];split<;>simp<;>omega
structure EntOk (x:Ent):Prop where
 check:checkT x.tx=0
 grant:grantB x.tx=false
 fee:goodB x.fee=true
 id:x.id=idT x.tx
 size:x.size=(sizeT x.tx:Nat)
theorem feeOf_bound {l:List Ent} (hl:∀x∈l,goodB x.fee=true) (m:List Bool):0≤feeOf l m∧feeOf l m≤2100000000000000*l.length:=by
 induction l generalizing m with
 |nil=>simp [feeOf]
 |cons x l ih=>cases m with
  |nil=>simp [feeOf];omega
  |cons b m=>
   have h1:=ih (fun y hy=>hl y (by simp [hy])) m
   have h2:=(goodB_iff x.fee).1 (hl x (by simp))
   simp only [feeOf,List.length_cons]
   split<;>omega
theorem szOf_bound {c:Nat} {l:List Ent} (hl:∀x∈l,0≤x.size∧x.size≤c) (m:List Bool):0≤szOf l m∧szOf l m≤c*l.length:=by
 induction l generalizing m with
 |nil=>simp [szOf]
 |cons x l ih=>cases m with
  |nil=>simp only [szOf];refine ⟨Int.le_refl _,Int.mul_nonneg (by omega) (by omega)⟩
  |cons b m=>
   have h1:=ih (fun y hy=>hl y (by simp [hy])) m
   have h2:=hl x (by simp)
   simp only [szOf,List.length_cons]
   rw [Int.natCast_add,Int.mul_add]
   split<;>omega
def idN (n:Nat):ByteArray:=str ((List.range 32).map fun i=>UInt8.ofNat (n / 2^(i%8))^^^UInt8.ofNat i)
theorem idN_size (n:Nat):(idN n).size=32:=by rw [idN,str_size];simp
theorem idN_take (n i:Nat) (h:i<32):str (((List.range 32).map fun i=>UInt8.ofNat (n / 2^(i%8))^^^UInt8.ofNat i).take (i+1))=str (((List.range 32).map fun i=>UInt8.ofNat (n / 2^(i%8))^^^UInt8.ofNat i).take i)++str [UInt8.ofNat (n / 2^(i%8))^^^UInt8.ofNat i]:=by
 rw [List.take_succ_eq_append_getElem (by simpa using h),str_append]
 simp
end Go.K
end
section
namespace Go.Proofs.YtfebcajheojodaaGreatDoor
open Go Go.K
attribute [local irreducible] regK codeK retK KOp.wp K.Spec u32 leS vnS str zero32 sha2 encT idT sizeT checkT grantB
def boolE:Enc Bool:=⟨fun b=> [.bool b],1,fun _=>rfl,by decide,by intro x v hv;simp at hv;subst hv;rfl⟩
theorem find_spec {M:List Nat} {v:Value} {l:List Ent} (id:ByteArray) (w:World) (hl:SlR entR M w v l) (hn:l.length≤100000000):K.Spec Tryz.prog F.kedgeref14_Find [v,.string id] w fun r w'=>r=.int .i64 (findI l id)∧w'=w:=by
 refine s_kedgeref14_Find rfl ?_
 unfold k_kedgeref14_Find
 refine oy ?_
 repeat' (first|(first|refine go1 ?_|refine zg (fun _ _=>?_)|refine zi (fun _ _=>?_))|refine zL rfl (fun h=>?_) (fun h=>?_)|refine zG rfl (by exact fx) ?_|(refine c_loopV (fun (i:Nat) w'=>Ext w w'∧w'=w∧i≤l.length∧∀j,j<i→∀h:j<l.length,decide (l[j].id=id)=false) (fun i=> [(0,v),(1,.string id),(5,.int .i64 i)]) (fun i=>l.length - i) 0 ⟨rfl,rfl,rfl,trivial⟩ ⟨Ext.refl _,rfl,by omega,by omega⟩ ?_;rintro i ρ w1 ⟨x1,hw,hi,hk⟩)|(refine st_elemR rfl rfl (n:=i) (l:=l) (by exact fx) rfl (by omega) (fun ad cs r2 he=>?_);obtain ⟨iv,ov,rfl,h1,h2,h3⟩:=he;have hil:i<l.length:=(by omega)))
 ·exact x_ret rfl ⟨congrArg (Value.int .i64) (idxOf_hit hil (decide_eq_true h) (fun j hj=>hk j hj (by omega))).symm,hw⟩
 ·refine ⟨i+1,⟨rfl,rfl,rfl,trivial⟩,⟨by exact fx,hw,by omega,fun j hj hl=>?_⟩,by omega⟩
  by_cases hji:j=i
  ·subst hji;exact decide_eq_false h
  ·exact hk j (by omega) hl
 ·exact x_ret rfl ⟨congrArg (Value.int .i64) (idxOf_miss (fun j hj=>hk j (by omega) hj)).symm,hw⟩
theorem rspender_spec {M : List Nat} {v : Value} {l : List Ent} (p : Pt) (w : World) (hl : SlR entR M w v l) (hn : l.length ≤ 100000000) (hs : ∀ x ∈ l, x.tx.ins.length ≤ 100000000) : K.Spec Tryz.prog F.kedgeref14_Spender [v, .agg p.cs.toArray] w fun r w' => r = .int .i64 (spendI l p) ∧ Ext w w' := by
  refine s_kedgeref14_Spender rfl ?_
  unfold k_kedgeref14_Spender
  refine oy ?_
  repeat' (first|(first|refine go1 ?_|refine zg (fun _ _=>?_)|refine zi (fun _ _=>?_))|(first|refine zD rfl rfl (fun bp wp xp ap rp hp0=>?_)|refine zE (fun _=>rfl) rfl rfl rfl (fun bq wq xq aq rq hq0=>?_))|refine zL rfl (fun h => ?_) (fun h => ?_)|refine zM rfl (fun h => ?_) (fun h => ?_)|refine zJ rfl (fun h => ?_) (fun h => ?_)|refine zG rfl (by exact fx) ?_|(refine c_loopV (fun (i : Nat) w' => Ext wp w' ∧ i ≤ l.length ∧ ∀ j, j < i → ∀ h : j < l.length, spends l[j] p = false) (fun i => [(0, v), (3, .pointer (some ⟨bp, 0, none⟩)), (5, .int .i64 i)]) (fun i => l.length - i) 0 ⟨rfl, rfl, rfl, trivial⟩ ⟨Ext.refl _, by omega, by omega⟩ ?_; rintro i ρ w1 ⟨x1, hi, hk⟩)|(have hil : i < l.length := (by omega); have hsl := hs _ (List.getElem_mem hil); refine c_loopV (fun (j : Nat) w' => Ext wp w' ∧ j ≤ l[i].tx.ins.length ∧ ∀ q, q < j → ∀ h : q < l[i].tx.ins.length, decide (l[i].tx.ins[q].p = p) = false) (fun j => [(0, v), (3, .pointer (some ⟨bp, 0, none⟩)), (5, .int .i64 i), (6, .int .i64 j)]) (fun j => l[i].tx.ins.length - j) 0 ⟨rfl, rfl, rfl, rfl, trivial⟩ ⟨by exact fx, by omega, by omega⟩ ?_; rintro j ρ2 w2 ⟨x2, hj, hkj⟩)|(refine st_elemR (E := entR) rfl rfl (n := i) (l := l) (by exact fx) rfl hil (fun ad cs r2 he => ?_); obtain ⟨iv, ov, rfl, h1, h2, h3⟩ := he)|(refine st_elemR (E := inR) rfl rfl (n := j) (l := l[i].tx.ins) (by exact fx) rfl (by omega) (fun ad cs r4 he => ?_); obtain ⟨wv, rfl, hw, _⟩ := he; obtain ⟨_, _, rfl⟩ := hw.form))
  all_goals first
    | (refine x_ret rfl ⟨congrArg (Value.int .i64) (idxOf_hit (p := fun x => spends x p) hil ?_ (fun j hj => hk j hj (by omega))).symm, by exact fx⟩
       exact List.any_eq_true.2 ⟨_, List.getElem_mem (show j < l[i].tx.ins.length by omega), decide_eq_true (pt_ext (by assumption) (by assumption))⟩)
    | exact ⟨j + 1, ⟨rfl, rfl, rfl, rfl, trivial⟩, ⟨by exact fx, by omega, fun q hq hl => by
        by_cases hqj : q = j
        · subst hqj; exact decide_eq_false (fun e => by subst e; exact h rfl)
        · exact hkj q (by omega) hl⟩, by omega⟩
    | exact ⟨i + 1, ⟨rfl, rfl, rfl, trivial⟩, ⟨by exact fx, by omega, fun q hq hl => by
        by_cases hqi : q = i
        · subst hqi; exact any_none fun r hr => hkj r (by omega) hr
        · exact hk q (by omega) hl⟩, by omega⟩
    | exact x_ret rfl ⟨congrArg (Value.int .i64) (idxOf_miss (fun j hj => hk j (by omega) hj)).symm, by exact fx⟩
    | trace_state
theorem wrap_i {n:Int} (h:is32 n):IntKind.i64.wrap n=n:=IntWalk.i64_in _ (by unfold is32 at h;omega)
theorem hangs_spec {M : List Nat} {cs ds : List Value} {t : Tx} {x : Ent} (w : World) (ht : txR.rel M w cs t) (hx : entR.rel M w ds x) (hs : t.ins.length ≤ 100000000) : K.Spec Tryz.prog F.kedgeref14_Hangs [.agg cs.toArray, .agg ds.toArray] w fun r w' => r = .bool (hangs t x) ∧ Ext w w' := by
  obtain ⟨iv, ov, rfl, h1, h2, h3⟩ := ht
  obtain ⟨iv2, ov2, rfl, g1, g2, g3⟩ := hx
  refine s_kedgeref14_Hangs rfl ?_
  unfold k_kedgeref14_Hangs
  refine oy ?_
  repeat' (first|(first|refine go1 ?_|refine zg (fun _ _=>?_)|refine zi (fun _ _=>?_))|refine zD rfl rfl (fun bp wp xp ap (rp : Row wp ⟨bp, 0, none⟩ (txCs t iv ov)) hp0=>?_)|refine zD rfl rfl (fun bq wq xq aq rq hq0=>?_)|refine zL rfl (fun h => ?_) (fun h => ?_)|refine zM rfl (fun h => ?_) (fun h => ?_)|refine zJ rfl (fun h => ?_) (fun h => ?_)|refine zG rfl (by exact fx) ?_|(refine c_loopV (fun (i : Nat) w' => Ext wq w' ∧ i ≤ t.ins.length ∧ ∀ j, j < i → ∀ h : j < t.ins.length, (decide (t.ins[j].p.s = x.id) && decide (t.ins[j].p.i < (x.tx.outs.length : Int))) = false) (fun i => [(2, .pointer (some ⟨bp, 0, none⟩)), (3, .pointer (some ⟨bq, 0, none⟩)), (5, .int .i64 i)]) (fun i => t.ins.length - i) 0 ⟨rfl, rfl, rfl, trivial⟩ ⟨Ext.refl _, by omega, by omega⟩ ?_; rintro i ρ w1 ⟨x1, hi, hk⟩)|(refine st_elemR (E := inR) rfl rfl (n := i) (l := t.ins) (by exact fx) rfl (by omega) (fun ad cs r4 he => ?_); obtain ⟨wv, rfl, hw, hp5, hp6⟩ := he; obtain ⟨_, _, rfl⟩ := hw.form; have hil : i < t.ins.length := (by omega)))
  all_goals first
    | (rw [wrap_i hp5] at h
       first
       | (refine x_ret rfl ⟨congrArg Value.bool (any_at (p := fun i : TIn => decide (i.p.s = x.id) && decide (i.p.i < (x.tx.outs.length : Int))) hil ?_).symm, by exact fx⟩
          simp only [decide_eq_true_eq, Bool.and_eq_true]; exact ⟨by assumption, h⟩)
       | exact ⟨i + 1, ⟨rfl, rfl, rfl, trivial⟩, ⟨by exact fx, by omega, fun q hq hl => by
            by_cases hqi : q = i
            · subst hqi; rw [decide_eq_false h, Bool.and_false]
            · exact hk q (by omega) hl⟩, by omega⟩)
    | exact ⟨i + 1, ⟨rfl, rfl, rfl, trivial⟩, ⟨by exact fx, by omega, fun q hq hl => by
        by_cases hqi : q = i
        · subst hqi; rw [decide_eq_false h]; rfl
        · exact hk q (by omega) hl⟩, by omega⟩
    | exact x_ret rfl ⟨congrArg Value.bool (any_none fun j hj => hk j (by omega) hj).symm, by exact fx⟩
    | trace_state
theorem ids_spec {M : List Nat} {v u : Value} {l : List Ent} {m : List Bool} (w : World) (hl : SlR entR M w v l) (hm : SlE boolE w u m) (hlm : l.length = m.length) (hn : l.length ≤ 100000000) : K.Spec Tryz.prog F.kedgeref14_IDs [v, u] w fun r w' => Own strE T.string w.heap.size w' r (idsOf l m) ∧ Ext w w' := by
  refine s_kedgeref14_IDs rfl ?_
  unfold k_kedgeref14_IDs
  refine oy ?_
  repeat' (first|(first|refine go1 ?_|refine zg (fun _ _=>?_)|refine zi (fun _ _=>?_))|refine zL rfl (fun h => ?_) (fun h => ?_)|refine zM rfl (fun h => ?_) (fun h => ?_)|refine zG rfl (by exact fx) ?_|(refine c_loopV (fun (p : Nat × Value) w' => Ext w w' ∧ p.1 ≤ l.length ∧ Own strE T.string w.heap.size w' p.2 (idsOf (l.take p.1) (m.take p.1))) (fun p => [(0, v), (1, u), (5, p.2), (6, .int .i64 p.1)]) (fun p => l.length - p.1) (0, .slice none 0 0) ⟨rfl, rfl, rfl, rfl, trivial⟩ ⟨Ext.refl _, by simp, Own.nil _ _ _⟩ ?_; rintro ⟨i, vo⟩ ρ w1 ⟨x1, hi, ho⟩; simp only at hi ho; dsimp only)|(refine st_elemE (d := some 15) (E := boolE) rfl rfl (n := i) (l := m) (SlE.ext (w := w) (by exact fx) hm) rfl (by omega) (fun ad r2 => ?_); have hil : i < l.length := (by omega))|(refine st_elemR (d := some 20) (E := entR) rfl rfl (n := i) (l := l) (by exact fx) rfl (by omega) (fun ad cs r4 he => ?_); obtain ⟨iv, ov, rfl, h1, h2, h3⟩ := he)|(refine zI rfl (fun b w3 x3 a3 hb => ?_))|(refine st_append (E := strE) (v := vo) (l2 := [l[i].id]) rfl (ho.ext (by exact fx)) (Ext.size (w := w) (by exact fx)) rfl rfl (sl_new a3 rfl) rfl rfl (by have := idsOf_length (l.take i) (m.take i); have := List.length_take_le i l; simp only [List.length_cons, List.length_nil]; omega) (fun v5 w5 ho5 c5 => ?_)))
  all_goals first
    | exact ⟨(i + 1, v5), ⟨rfl, rfl, rfl, rfl, trivial⟩, ⟨(Ext.chg (w := w) (by exact fx) c5).mono (fun b hb => .inr (ho.base b (by simpa using hb))), by simp; omega, by rw [idsOf_take hlm hil, h]; exact ho5⟩, by simp; omega⟩
    | exact ⟨(i + 1, vo), ⟨rfl, rfl, rfl, rfl, trivial⟩, ⟨by exact fx, by simp; omega, by rw [idsOf_take hlm hil, h]; simpa using ho⟩, by simp; omega⟩
    | (rw [List.take_of_length_le (l := l) (by omega), List.take_of_length_le (l := m) (by omega)] at ho
       exact x_ret rfl ⟨ho, by exact fx⟩)
    | trace_state
theorem rsum14_spec {M : List Nat} {v u : Value} {l : List Ent} {m : List Bool} (w : World) (hl : SlR entR M w v l) (hm : SlE boolE w u m) (hlm : l.length = m.length) (hn : l.length ≤ 1000) (hf : ∀ x ∈ l, goodB x.fee = true) (hz : ∀ x ∈ l, 0 ≤ x.size ∧ x.size ≤ (100000000000 : Nat)) : K.Spec Tryz.prog F.kedgeref14_Sum [v, u] w fun r w' => r = .tuple #[.int .i64 (feeOf l m), .int .i64 (szOf l m)] ∧ Ext w w' := by
  have hF : ∀ i m', 0 ≤ feeOf (l.take i) m' ∧ feeOf (l.take i) m' ≤ 2100000000000000 * 1000 := fun i m' => by
    have h1 := feeOf_bound (l := l.take i) (fun x hx => hf x (List.mem_of_mem_take hx)) m'
    have h2 : (l.take i).length ≤ l.length := by rw [List.length_take]; omega
    omega
  have hS : ∀ i m', 0 ≤ szOf (l.take i) m' ∧ szOf (l.take i) m' ≤ 100000000000 * 1000 := fun i m' => by
    have h1 := szOf_bound (c := 100000000000) (l := l.take i) (fun x hx => hz x (List.mem_of_mem_take hx)) m'
    have h2 : (l.take i).length ≤ l.length := by rw [List.length_take]; omega
    omega
  refine s_kedgeref14_Sum rfl ?_
  unfold k_kedgeref14_Sum
  refine oy ?_
  repeat' (first|(first|refine go1 ?_|refine zg (fun _ _=>?_)|refine zi (fun _ _=>?_))|refine zL rfl (fun h => ?_) (fun h => ?_)|refine zM rfl (fun h => ?_) (fun h => ?_)|refine zG rfl (by exact fx) ?_|(refine c_loopV (fun (i : Nat) w' => Ext w w' ∧ i ≤ l.length) (fun i => [(0, v), (1, u), (6, .int .i64 (feeOf (l.take i) (m.take i))), (7, .int .i64 (szOf (l.take i) (m.take i))), (8, .int .i64 i)]) (fun i => l.length - i) 0 ⟨rfl, rfl, rfl, rfl, rfl, trivial⟩ ⟨Ext.refl _, by omega⟩ ?_; rintro i ρ w1 ⟨x1, hi⟩; have f1 := hF i (m.take i); have s1 := hS i (m.take i))|(refine st_elemE (d := some 17) (E := boolE) rfl rfl (n := i) (l := m) (SlE.ext (w := w) (by exact fx) hm) rfl (by omega) (fun ad r2 => ?_); have hil : i < l.length := (by omega); have f2 := (goodB_iff _).1 (hf _ (List.getElem_mem hil)); have s2 := hz _ (List.getElem_mem hil))|(refine st_elemR (E := entR) rfl rfl (n := i) (l := l) (by exact fx) rfl (by omega) (fun ad cs r4 he => ?_); obtain ⟨iv, ov, rfl, h1, h2, h3⟩ := he))
  all_goals first
    | exact ⟨i + 1, ⟨rfl, rfl, congrArg (Value.int .i64) (by rw [feeOf_take hlm hil, h]; rfl), congrArg (Value.int .i64) (by rw [szOf_take hlm hil, h]; rfl), rfl, trivial⟩, ⟨by exact fx, by omega⟩, by omega⟩
    | exact ⟨i + 1, ⟨rfl, rfl, congrArg (Value.int .i64) (by rw [feeOf_take hlm hil, h]; simp), congrArg (Value.int .i64) (by rw [szOf_take hlm hil, h]; simp), rfl, trivial⟩, ⟨by exact fx, by omega⟩, by omega⟩
    | (refine x_ret rfl ⟨?_, by exact fx⟩
       rw [List.take_of_length_le (l := l) (by omega), List.take_of_length_le (l := m) (by omega)]; rfl)
    | trace_state
end Go.Proofs.YtfebcajheojodaaGreatDoor
end
section
namespace Go.Proofs.YtfebcajheojodaaGreatDoor
open Go Go.K
attribute [local irreducible] regK codeK retK KOp.wp K.Spec u32 leS vnS str zero32 sha2 encT idT sizeT checkT grantB
theorem u8_xor (a b:UInt8):binVal .xor (.int .u8 (a.toNat:Nat)) (.int .u8 (b.toNat:Nat))=some (.int .u8 ((a^^^b).toNat:Nat)):=by
 have e:∀x:UInt8,BitVec.ofInt 8 (x.toNat:Nat)=x.toBitVec:=fun x=>by
  apply BitVec.eq_of_toNat_eq
  have:=x.toNat_lt
  simp [BitVec.toNat_ofInt]
 simp only [binVal,isShift,Bool.false_eq_true,if_false,if_true,intBin,IntKind.bits]
 rw [e,e]
 refine congrArg some (congrArg (Value.int .u8) ?_)
 have h:IntKind.u8.wrap ((a.toBitVec^^^b.toBitVec).toNat:Nat)=(((a^^^b).toNat:Nat):Int)%256:=rfl
 refine h.trans ?_
 have:=(a^^^b).toNat_lt
 omega
theorem shr_n (n i:Nat):binVal .shr (.int .i64 (n:Nat)) (.int .i64 ((i%8:Nat):Int))=some (.int .i64 ((n / 2^(i%8):Nat):Int)):=by
 simp only [binVal,isShift,if_true]
 rw [if_neg (by omega)]
 have e:min ((i%8:Nat):Int).toNat IntKind.i64.bits=i%8:=by simp [IntKind.bits];omega
 rw [e,Int.fdiv_eq_ediv_of_nonneg _ (by exact_mod_cast Nat.zero_le _)]
 norm_cast
section
variable {P:Program} {d:Option Tmp} {r:KR} {K:Env→World→Prop} {ρ:Env} {w:World}
theorem st_iU8 {x:Operand} {n:Nat} (hx:ev ρ x=.int .i64 (n:Nat)) (k:regK P r K (put ρ d (.int .u8 ((UInt8.ofNat n).toNat:Nat))) w):regK P (.cons ⟨d,.conv .u8 x,none⟩ r) K ρ w:=
 st_fix rfl (by simp only [KOp.fix,hx];rw [u8_wrap]) k
end
theorem idn_spec (n:Nat) (w:World):K.Spec Tryz.prog F.kedgeref05_ID [.int .i64 (n:Nat)] w fun r w'=>r=.string (idN n)∧Ext w w':=by
 refine s_kedgeref05_ID rfl ?_
 unfold k_kedgeref05_ID
 refine oy ?_
 repeat' (first|(refine st_rem (n:=i) (m:=8) rfl rfl (by decide) ?_)|(refine st_bin rfl rfl (shr_n n i) ?_)|(refine st_iU8 rfl ?_)|(refine st_bin rfl rfl (u8_xor (UInt8.ofNat (n / 2^(i%8))) (UInt8.ofNat i)) ?_)|(first|refine go1 ?_|refine zg (fun _ _=>?_)|refine zi (fun _ _=>?_))|refine zL rfl (fun h=>?_) (fun h=>?_)|(refine c_loopV (fun (i:Nat) w'=>Ext w w'∧i≤32) (fun i=> [(0,.int .i64 (n:Nat)),(3,.string (str (((List.range 32).map fun i=>UInt8.ofNat (n / 2^(i%8))^^^UInt8.ofNat i).take i))),(4,.int .i64 i)]) (fun i=>32 - i) 0 ⟨rfl,congrArg Value.string str_nil.symm,rfl,trivial⟩ ⟨Ext.refl _,by omega⟩ ?_;rintro i ρ w1 ⟨x1,hi⟩)|(refine zI rfl (fun b w2 x2 a2 hb=>?_))|(refine st_strU (l:= [UInt8.ofNat (n / 2^(i%8))^^^UInt8.ofNat i]) rfl (SlE.new (E:=u8E) a2 rfl (Nat.le_refl _)) ?_)|(refine st_catS rfl rfl (by rw [str_size,str_size];simp;omega) ?_))
 ·exact ⟨i+1,⟨rfl,congrArg Value.string (idN_take n i (by omega)).symm,rfl,trivial⟩,⟨by exact fx,by omega⟩,by omega⟩
 ·exact x_ret rfl ⟨congrArg Value.string (by rw [idN,List.take_of_length_le (by simp;omega)]),by exact fx⟩
set_option maxHeartbeats 1000000 in
theorem same_spec {M N:List Nat} {cs ds:List Value} {t:Tx} (w:World) (ht:txR.rel M w cs t) (hu:txR.rel N w ds t) (hs:t.Sm):K.Spec Tryz.prog F.kedgeref05_Same [.agg cs.toArray,.agg ds.toArray] w fun r w'=>r=.bool true∧Ext w w':=by
 obtain ⟨iv,ov,rfl,h1,h2,h3⟩:=ht
 obtain ⟨iv2,ov2,rfl,g1,g2,g3⟩:=hu
 have hq1:=hs.ins
 have hq2:=hs.outs
 refine s_kedgeref05_Same rfl ?_
 unfold k_kedgeref05_Same
 refine oy ?_
 repeat' (first|(first|refine go1 ?_|refine zg (fun _ _=>?_)|refine zi (fun _ _=>?_))|refine zD rfl rfl (fun bp wp xp ap (rp:Row wp ⟨bp,0,none⟩ (txCs t iv ov)) hp0=>?_)|refine zD rfl rfl (fun bq wq xq aq (rq:Row wq ⟨bq,0,none⟩ (txCs t iv2 ov2)) hq0=>?_)|(refine zK rfl (fun h=>absurd h (by simp)) (fun _=>?_))|(refine zN rfl (fun h=>absurd rfl h) (fun _=>?_))|(refine zL rfl (fun h=>?_) (fun h=>?_))|(refine st_lenR (E:=inR) (M:=M) (l:=t.ins) rfl (SlR.ext (w:=w) h1 (by exact fx)) ?_)|(refine st_lenR (E:=inR) (M:=N) (l:=t.ins) rfl (SlR.ext (w:=w) g1 (by exact fx)) ?_)|(refine st_lenR (E:=outR) (M:=M) (l:=t.outs) rfl (SlR.ext (w:=w) h2 (by exact fx)) ?_)|(refine st_lenR (E:=outR) (M:=N) (l:=t.outs) rfl (SlR.ext (w:=w) g2 (by exact fx)) ?_)|(refine c_loopV (fun (i:Nat) w'=>Ext wq w'∧i≤t.ins.length) (fun i=> [(2,.pointer (some ⟨bp,0,none⟩)),(3,.pointer (some ⟨bq,0,none⟩)),(5,.int .i64 i)]) (fun i=>t.ins.length - i) 0 ⟨rfl,rfl,rfl,trivial⟩ ⟨Ext.refl _,by omega⟩ ?_;rintro i ρ w1 ⟨x1,hi⟩)|(refine st_elemR (d:=some 50) (E:=inR) (M:=M) rfl rfl (n:=i) (l:=t.ins) (SlR.ext (w:=w) h1 (by exact fx)) rfl (by omega) (fun ad cs r4 he=>?_);obtain ⟨wv,rfl,hw,_⟩:=he;obtain ⟨bs1,cp1,rfl⟩:=hw.form)|(refine st_elemR (d:=some 55) (E:=inR) (M:=N) rfl rfl (n:=i) (l:=t.ins) (SlR.ext (w:=w) g1 (by exact fx)) rfl (by omega) (fun ad cs r4 he=>?_);obtain ⟨wv2,rfl,hw2,_⟩:=he;obtain ⟨bs2,cp2,rfl⟩:=hw2.form)|(refine st_elemR (d:=some 117) (E:=outR) (M:=M) rfl rfl (n:=k) (l:=t.outs) (SlR.ext (w:=w) h2 (by exact fx)) rfl (by omega) (fun ad cs r4 he=>?_);obtain ⟨rfl,_⟩:=he)|(refine st_elemR (d:=some 123) (E:=outR) (M:=N) rfl rfl (n:=k) (l:=t.outs) (SlR.ext (w:=w) g2 (by exact fx)) rfl (by omega) (fun ad cs r4 he=>?_);obtain ⟨rfl,_⟩:=he)|(refine st_elemR (d:=some 131) (E:=outR) (M:=M) rfl rfl (n:=k) (l:=t.outs) (SlR.ext (w:=w) h2 (by exact fx)) rfl (by omega) (fun ad cs r4 he=>?_);obtain ⟨rfl,_⟩:=he)|(refine st_elemR (d:=some 137) (E:=outR) (M:=N) rfl rfl (n:=k) (l:=t.outs) (SlR.ext (w:=w) g2 (by exact fx)) rfl (by omega) (fun ad cs r4 he=>?_);obtain ⟨rfl,_⟩:=he)|(refine zE (fun _=>rfl) rfl rfl rfl (fun b6 w6 x6 a6 (r6:Row w6 ⟨b6,0,none⟩ (inCs t.ins[i] (.slice bs1 t.ins[i].wit.length cp1))) hb6=>?_))|(refine zE (fun _=>rfl) rfl rfl rfl (fun b7 w7 x7 a7 (r7:Row w7 ⟨b7,0,none⟩ (inCs t.ins[i] (.slice bs2 t.ins[i].wit.length cp2))) hb7=>?_);have hwl:=hs.wit _ (List.getElem_mem (show i<t.ins.length by omega)))|(refine c_loopV (fun (j:Nat) w'=>Ext w7 w'∧j≤t.ins[i].wit.length) (fun j=> [(2,.pointer (some ⟨bp,0,none⟩)),(3,.pointer (some ⟨bq,0,none⟩)),(5,.int .i64 i),(6,.pointer (some ⟨b6,0,none⟩)),(7,.pointer (some ⟨b7,0,none⟩)),(8,.int .i64 j)]) (fun j=>t.ins[i].wit.length - j) 0 ⟨rfl,rfl,rfl,rfl,rfl,rfl,trivial⟩ ⟨Ext.refl _,by omega⟩ ?_;rintro j ρ8 w8 ⟨x8,hj⟩)|(refine st_lenR (E:=strR) (l:=t.ins[i].wit) rfl (by exact fx) ?_)|(refine st_elemR (d:=some 99) (E:=strR) rfl rfl (n:=j) (l:=t.ins[i].wit) (SlR.ext hw (by exact fx)) rfl (by omega) (fun ad cs r4 he=>?_);subst he)|(refine st_elemR (d:=some 104) (E:=strR) rfl rfl (n:=j) (l:=t.ins[i].wit) (SlR.ext hw2 (by exact fx)) rfl (by omega) (fun ad cs r4 he=>?_);subst he)|(refine c_loopV (fun (k:Nat) w'=>Ext wq w'∧k≤t.outs.length) (fun k=> [(2,.pointer (some ⟨bp,0,none⟩)),(3,.pointer (some ⟨bq,0,none⟩)),(9,.int .i64 k)]) (fun k=>t.outs.length - k) 0 ⟨rfl,rfl,rfl,trivial⟩ ⟨by exact fx,by omega⟩ ?_;rintro k ρ9 w9 ⟨x9,hk⟩))
 all_goals first
  |exact ⟨i+1,⟨rfl,rfl,rfl,trivial⟩,⟨by exact fx,by omega⟩,by omega⟩
  |exact ⟨j+1,⟨rfl,rfl,rfl,rfl,rfl,rfl,trivial⟩,⟨by exact fx,by omega⟩,by omega⟩
  |exact ⟨k+1,⟨rfl,rfl,rfl,trivial⟩,⟨by exact fx,by omega⟩,by omega⟩
  |exact x_ret rfl ⟨rfl,by exact fx⟩
  |trace_state
end Go.Proofs.YtfebcajheojodaaGreatDoor
end
section
namespace Go.K
open Go
structure Small where
 frm:List UInt8
 idx:UInt8
 outs:UInt8
 fee:Int
 mark:UInt8
 long:UInt8
instance:Inhabited Small:=⟨⟨[],0,0,0,0,0⟩⟩
def u8R:R UInt8:=R.flat u8E false
def u8V (b:UInt8):Value:=.int .u8 (b.toNat:Nat)
structure InMade (x:TIn):Prop where
 lo:0≤x.p.i
 hi:x.p.i<4
 q:x.q=4294967293
 wit:x.wit= []
 id:x.p.s.size=32
structure OutMade (y:TOut):Prop where
 lo:0≤y.v
 hi:y.v≤2000
 s:y.s.size≤40
structure Made (z:Small) (t:Tx):Prop where
 ver:t.ver=2
 lock:t.lock=(z.mark.toNat:Nat)
 ins:t.ins.length=min z.frm.length 4
 each:∀x∈t.ins,InMade x
 outs:t.outs.length=z.outs.toNat%3+1+z.long.toNat
 eacho:∀y∈t.outs,OutMade y
theorem wrap_u8 (b:UInt8):IntKind.i64.wrap (b.toNat:Nat)=(b.toNat:Nat):=IntWalk.i64_in _ (by have:=b.toNat_lt;omega)
theorem rem_u8 (n m:Nat) (h:0<m):binVal .rem (.int .u8 (n:Nat)) (.int .u8 (m:Nat))=some (.int .u8 ((n%m:Nat):Int)):=by
 have hne:(m:Int)≠0:=by omega
 simp only [binVal,isShift,Bool.false_eq_true,if_false,if_true,intBin]
 rw [tm,if_neg hne]
theorem wrap_n8 {n:Nat} (h:n<256):IntKind.i64.wrap (n:Nat)=(n:Nat):=IntWalk.i64_in _ (by omega)
end Go.K
end
section
namespace Go.Proofs.YtfebcajheojodaaGreatDoor
open Go Go.K
attribute [local irreducible] regK codeK retK KOp.wp K.Spec u32 leS vnS str zero32 sha2 encT idT sizeT checkT grantB idN
end Go.Proofs.YtfebcajheojodaaGreatDoor
end
section
namespace Go.Proofs.YtfebcajheojodaaGreatDoor
open Go Go.K
attribute [local irreducible] regK codeK retK KOp.wp K.Spec u32 leS vnS str zero32 sha2 encT idT sizeT checkT grantB idN
structure _root_.Go.K.Tx.Raw (t:Tx):Prop where
 ins:t.ins.length≤9223372036854775807
 outs:t.outs.length≤9223372036854775807
 wit:∀x∈t.ins,x.wit.length≤9223372036854775807
structure _root_.Go.K.Tx.Cut (t:Tx) (n:Nat):Prop where
 ins:t.ins.length≤n
 outs:t.outs.length≤n
 wit:∀x∈t.ins,x.wit.length≤6
set_option maxHeartbeats 4000000 in
theorem cut_spec {M:List Nat} {cs:List Value} {t:Tx} (most:Nat) (w:World) (ht:txR.rel M w cs t) (hr:t.Raw) (hm:most≤1000) (hM:∀b∈M,b<w.heap.size):
  K.Spec Tryz.prog F.kedgeref05_Cut [.agg cs.toArray,.int .i64 (most:Nat)] w fun r w'=>∃cs' t',r=.agg cs'.toArray∧txO w.heap.size M w' cs' t'∧t'.Cut most∧Ext w w':=by
 obtain ⟨iv,ov,rfl,h1,h2,h3⟩:=ht
 have hr1:=hr.ins
 have hr2:=hr.outs
 refine s_kedgeref05_Cut rfl ?_
 unfold k_kedgeref05_Cut
 refine oy ?_
 repeat (first|refine go ?_|refine zg (fun _ _=>?_)|refine zi (fun _ _=>?_))
 refine zD rfl rfl (fun bp wp xp ap rp hp0=>?_)
 repeat (first|refine go ?_|refine zg (fun _ _=>?_)|refine zi (fun _ _=>?_))
 refine zH (fun b4 w4 x4 a4 hb4=>?_)
 repeat' (first|(refine st_build (cs:= [.int .u32 t.ver,.slice none 0 0,.slice none 0 0,.int .u32 t.lock]) rfl ?_)|(first|refine go1 ?_|refine zg (fun _ _=>?_)|refine zi (fun _ _=>?_)))
 refine zE (fun _=>rfl) rfl rfl rfl (fun b5 w5 x5 a5 r5 hb5=>?_)
 have lp:=ap.lt
 have l4:=a4.lt
 have l5:=a5.lt
 have sp:=xp.size
 have s4:=x4.size
 have s5:=x5.size
 obtain ⟨M1,hM1⟩:∃M1,M1= [b4,b5]++M:=⟨_,rfl⟩
 have hM1b:∀b∈M1,b<w5.heap.size:=by
  intro y hy;rw [hM1] at hy;simp at hy
  rcases hy with h|h|h
  ·omega
  ·omega
  ·have:=hM y h;omega
 have m4:b4∈M1:=by rw [hM1];simp
 have m5:b5∈M1:=by rw [hM1];simp
 have mM:∀b∈M,b∈M1:=by intro y hy;rw [hM1];simp [hy]
 have a4':At w5 b4 (.cells [Value.int .u32 0,.slice none 0 0,.slice none 0 0,.int .u32 0].toArray T.api_Tx (0,0)):=At.ext x5 a4
 have a5':At w5 b5 (.cells [Value.int .u32 t.ver,.slice none 0 0,.slice none 0 0,.int .u32 t.lock].toArray T.api_Tx (0,0)):=a5
 have ap':At w5 bp (.cells (txCs t iv ov).toArray T.api_Tx (0,0)):=At.ext x5 (At.ext x4 ap)
 have xw:Unit→Ext w w5:=fun _=>(xp.trans x4).trans x5
 clear a5 a4 ap rp r5 x5 x4 xp
 repeat' (first|(first|refine go1 ?_|refine zg (fun _ _=>?_)|refine zi (fun _ _=>?_))|refine zJ rfl (fun h=>?_) (fun h=>?_)|refine zL rfl (fun h=>?_) (fun h=>?_)|refine zB ?_ ?_|(refine zG (E:=inR) (M:=M) (l:=t.ins) rfl (SlR.ext (w:=w) h1 (by first|exact x6|exact Ext.c (by assumption) x6)) ?_)|(refine c_loopV (fun (p:Nat × Value × List TIn) w'=>Ext w w'∧w5.heap.size≤w'.heap.size∧At w' bp (.cells (txCs t iv ov).toArray T.api_Tx (0,0))∧p.1≤t.ins.length∧p.1≤most∧p.2.2.length=p.1∧(∀x∈p.2.2,x.wit.length≤6)∧At w' b4 (.cells [Value.int .u32 0,.slice none 0 0,.slice none 0 0,.int .u32 0].toArray T.api_Tx (0,0))∧At w' b5 (.cells [Value.int .u32 t.ver,p.2.1,.slice none 0 0,.int .u32 t.lock].toArray T.api_Tx (0,0))∧OwnR inR T.api_In w5.heap.size M1 w' p.2.1 p.2.2) (fun p=> [(1,.int .i64 (most:Nat)),(2,.pointer (some ⟨bp,0,none⟩)),(4,.pointer (some ⟨b4,0,none⟩)),(5,.pointer (some ⟨b5,0,none⟩)),(6,.int .i64 p.1)]) (fun p=>most - p.1) (0,.slice none 0 0, []) ⟨rfl,rfl,rfl,rfl,rfl,trivial⟩ ⟨xw (),Nat.le_refl _,ap',by simp,by simp,rfl,by simp,a4',a5',OwnR.nil _ _ _ _⟩ ?_;rintro ⟨i,vi,L⟩ ρ w6 ⟨x6,s56,q3,hi1,hi2,hL,hLm,q4,q5,o1⟩;simp only at hi1 hi2 hL hLm q5 o1;dsimp only;have q3r:=Row.of_at q3;have q5r:Row w6 ⟨b5,0,none⟩ [Value.int .u32 t.ver,vi,.slice none 0 0,.int .u32 t.lock]:=Row.of_at q5))
 ·have hil:i<t.ins.length:=by omega
  have x6':Unit→Ext w w6:=fun _=>x6
  have hwl:=hr.wit _ (List.getElem_mem hil)
  clear x6
  repeat' (first|(first|refine go1 ?_|refine zg (fun _ _=>?_)|refine zi (fun _ _=>?_))|refine zB ?_ ?_|(refine st_elemR (d:=some 32) (E:=inR) (M:=M) rfl rfl (n:=i) (l:=t.ins) (SlR.ext h1 (Ext.c (by assumption) (x6' ()))) rfl hil (fun ad cs r8 he=>?_);obtain ⟨wv,rfl,hw,hp5,hp6⟩:=he;obtain ⟨bs1,cp1,rfl⟩:=hw.form)|(refine st_elemR (d:=some 38) (E:=inR) (M:=M) rfl rfl (n:=i) (l:=t.ins) (SlR.ext h1 (Ext.c (by assumption) (x6' ()))) rfl hil (fun ad cs r9 he=>?_);obtain ⟨wv,rfl,hw,hp5,hp6⟩:=he;obtain ⟨bs1,cp1,rfl⟩:=hw.form)|(refine st_build (d:=some 41) (cs:=inCs ⟨t.ins[i].p,t.ins[i].q, []⟩ (.slice none 0 0)) rfl ?_)|(refine zH (d:=some 7) (fun b7 w7 x7 a7 hb7=>?_)))
  have l7:=a7.lt
  have s7:=Ext.size (w:=w6) (w':=w7) (by exact fx)
  have g7:w6.heap.size≤b7:=Nat.le_trans (Ext.size (by assumption)) hb7
  have gi:=o1.base
  have gj:=o1.lt
  refine st_storeN0 (vs:=inCs ⟨t.ins[i].p,t.ins[i].q, []⟩ (.slice none 0 0)) rfl rfl rfl (all_one rfl) a7 rfl (fun w8 c8 a8=>?_)
  have x68:Ext w6 w8:=(Ext.chg (w:=w6) (by exact fx) c8).mono (by intro y hy;simp at hy;right;omega)
  have s8:=c8.size
  clear a7 x7 c8 r8 r9
  have r8':=Row.of_at a8
  obtain ⟨M7,hM7⟩:∃M7,M7= [b7]++(blkOf vi++M1):=⟨_,rfl⟩
  have hM7b:∀b∈M7,b<w8.heap.size:=by
   intro y hy;rw [hM7] at hy
   rcases List.mem_append.1 hy with h|h
   ·simp at h;omega
   rcases List.mem_append.1 h with h|h
   ·have:=gj _ h;omega
   ·have:=hM1b y h;omega
  have m7:b7∈M7:=by rw [hM7];simp
  have mvi:∀b∈blkOf vi++M1,b∈M7:=by intro y hy;rw [hM7];exact List.mem_append_right _ hy
  repeat' (first|(refine c_cutV (a:=.seq (.reg false (.cons ⟨some 42,_,none⟩ _)) _) (fun (S:ByteArray) w'=>Ext w6 w'∧w8.heap.size≤w'.heap.size∧At w' b7 (.cells (inCs ⟨⟨S,t.ins[i].p.i⟩,t.ins[i].q, []⟩ (.slice none 0 0)).toArray T.api_In (0,0))) (fun _=> [(1,.int .i64 (most:Nat)),(2,.pointer (some ⟨bp,0,none⟩)),(4,.pointer (some ⟨b4,0,none⟩)),(5,.pointer (some ⟨b5,0,none⟩)),(6,.int .i64 i),(7,.pointer (some ⟨b7,0,none⟩))]) ?_ ?_)|(rintro S ρ7 w9 ⟨x69,sB,a9⟩;clear x68 r8' a8)|(refine c_cutV (a:=.seq (.reg false (.cons ⟨some 77,_,none⟩ _)) _) (fun (s:ByteArray) w'=>Ext w10 w') (fun s=> [(1,.int .i64 (most:Nat)),(2,.pointer (some ⟨bp,0,none⟩)),(4,.pointer (some ⟨b4,0,none⟩)),(5,.pointer (some ⟨b5,0,none⟩)),(6,.int .i64 i),(7,.pointer (some ⟨b7,0,none⟩)),(8,.int .i64 k),(9,.string s)]) ?_ ?_)|(rintro s ρ9 w12 x1012)|(first|refine go1 ?_|refine zg (fun _ _=>?_)|refine zi (fun _ _=>?_))|refine zJ rfl (fun h=>?_) (fun h=>?_)|refine zL rfl (fun h=>?_) (fun h=>?_)|(refine st_takeStr rfl rfl (by omega) ?_)|(refine st_store (d:=none) (b:=b7) (o:=0) rfl rfl rfl a8 (Nat.le_of_ble_eq_true rfl) (fun w9 c9 a9=>?_))|(refine c_loopV (fun (p:Nat × Value × List ByteArray) w'=>Ext w6 w'∧w9.heap.size≤w'.heap.size∧p.1≤6∧p.1≤t.ins[i].wit.length∧p.2.2.length=p.1∧At w' b7 (.cells (inCs ⟨⟨S,t.ins[i].p.i⟩,t.ins[i].q, []⟩ p.2.1).toArray T.api_In (0,0))∧OwnR strR T.string w8.heap.size M7 w' p.2.1 p.2.2) (fun p=> [(1,.int .i64 (most:Nat)),(2,.pointer (some ⟨bp,0,none⟩)),(4,.pointer (some ⟨b4,0,none⟩)),(5,.pointer (some ⟨b5,0,none⟩)),(6,.int .i64 i),(7,.pointer (some ⟨b7,0,none⟩)),(8,.int .i64 p.1)]) (fun p=>6 - p.1) (0,.slice none 0 0, []) ⟨rfl,rfl,rfl,rfl,rfl,rfl,rfl,trivial⟩ ⟨x69,Nat.le_refl _,by simp,by simp,rfl,a9,OwnR.nil _ _ _ _⟩ ?_;clear x69;rintro ⟨k,vw,W⟩ ρ10 w10 ⟨x10,s910,hk1,hk2,hW,a10,ow⟩;simp only at hk1 hk2 hW a10 ow;dsimp only;have r10:=Row.of_at a10)|(refine st_elemR (d:=some 57) (E:=inR) (M:=M) rfl rfl (n:=i) (l:=t.ins) (SlR.ext h1 (Ext.trans (x6' ()) (by exact fx))) rfl hil (fun ad cs r11 he=>?_);obtain ⟨wv2,rfl,hw2,_⟩:=he;obtain ⟨bs2,cp2,rfl⟩:=hw2.form)|(refine st_elemR (d:=some 71) (E:=inR) (M:=M) rfl rfl (n:=i) (l:=t.ins) (SlR.ext h1 (Ext.trans (x6' ()) (by exact fx))) rfl hil (fun ad cs r11 he=>?_);obtain ⟨wv2,rfl,hw2,_⟩:=he;obtain ⟨bs2,cp2,rfl⟩:=hw2.form)|(refine st_lenR (E:=strR) (M:=M) (l:=t.ins[i].wit) rfl hw2 ?_)|(refine st_elemR (d:=some 75) (E:=strR) (M:=M) rfl rfl (n:=k) (l:=t.ins[i].wit) hw2 rfl (by omega) (fun ad cs r12 he=>?_);subst he)|(refine zI (d:=some 85) (cs:= [.string s]) rfl (fun b w13 x13 a13 hb13=>?_);have s1013:=Ext.size (w:=w10) (w':=w13) (by exact fx))|(refine st_append1 (d:=some 86) (E:=strR) (M:=M7) (v:=vw) (cs:= [.string s]) (a:=s) rfl rfl ((ow.ext x1012).ext x13) (by omega) rfl rfl a13 rfl (by omega) (fun v14 w14 o14 c14 hb14=>?_))|(refine zI (d:=some 91) (cs:=inCs ⟨⟨S,t.ins[i].p.i⟩,t.ins[i].q,W⟩ vw) rfl (fun b w13 x13 a13 hb13=>?_);have s1013:=x13.size)|(refine st_append1 (d:=some 92) (E:=inR) (M:=M1) (v:=vi) (cs:=inCs ⟨⟨S,t.ins[i].p.i⟩,t.ins[i].q,W⟩ vw) (a:=⟨⟨S,t.ins[i].p.i⟩,t.ins[i].q,W⟩) rfl rfl (o1.ext (x10.trans x13)) (by omega) rfl rfl a13 ⟨vw,rfl,((ow.ext x13).slB hM7b).sub (fun b hb=>.inl (mvi b hb)),by assumption,by assumption⟩ (by omega) (fun v14 w14 o14 c14 hb14=>?_)))
  ·exact ⟨_,⟨rfl,rfl,rfl,rfl,rfl,rfl,trivial⟩,(x68.chg c9).mono (by intro y hy;simp at hy;right;omega),c9.size,a9⟩
  ·exact ⟨_,⟨rfl,rfl,rfl,rfl,rfl,rfl,trivial⟩,x68,Nat.le_refl _,a8⟩
  ·exact ⟨_,⟨rfl,rfl,rfl,rfl,rfl,rfl,rfl,rfl,trivial⟩,by exact fx⟩
  ·exact ⟨_,⟨rfl,rfl,rfl,rfl,rfl,rfl,rfl,rfl,trivial⟩,by exact fx⟩
  ·have gw:=ow.base
   have h7w:b7∉blkOf vw:=fun h=>by have:=gw _ h;omega
   have a14:=At.chg c14 (At.ext x13 (At.ext x1012 a10)) h7w
   have g14:=o14.base
   have h7v:b7∉blkOf v14:=fun h=>by have:=g14 _ h;omega
   refine st_store (d:=none) (b:=b7) (o:=3) (cur:=inCs ⟨⟨S,t.ins[i].p.i⟩,t.ins[i].q, []⟩ vw) rfl rfl o14.one a14 (Nat.le_of_ble_eq_true rfl) (fun w15 c15 a15=>?_)
   have o15:=o14.step c15 (M':=M7) (by intro y hy;simp at hy;subst hy;exact ⟨h7v,.inl m7⟩) (fun _ h=>.inl h)
   have x15:Unit→Ext w6 w15:=fun _=>(Ext.chg ((x10.trans x1012).trans x13) (c14.trans c15)).mono (by
    intro y hy
    rcases List.mem_append.1 hy with h|h
    ·have:=gw _ h;right;omega
    ·simp at h;right;omega)
   have s14:=c14.size
   have s15:=c15.size
   repeat (first|refine go1 ?_|refine zg (fun _ _=>?_)|refine zi (fun _ _=>?_))
   exact ⟨(k+1,v14,W++ [s]),⟨rfl,rfl,rfl,rfl,rfl,rfl,rfl,trivial⟩,⟨x15 (),by omega,by simp;omega,by simp;omega,by simp;omega,a15,o15⟩,by simp;omega⟩
  all_goals
   have hpv:bp∉blkOf vi:=fun h=>by have:=gi _ h;omega
   have h4v:b4∉blkOf vi:=fun h=>by have:=gi _ h;omega
   have h5v:b5∉blkOf vi:=fun h=>by have:=gi _ h;omega
   have z3:=At.chg c14 (q3.ext (x10.trans x13)) hpv
   have z4:=At.chg c14 (q4.ext (x10.trans x13)) h4v
   have z5:=At.chg c14 (q5.ext (x10.trans x13)) h5v
   have g14:=o14.base
   have h5w:b5∉blkOf v14:=fun h=>by have:=g14 _ h;omega
   refine st_store (d:=none) (b:=b5) (o:=1) (cur:= [Value.int .u32 t.ver,vi,.slice none 0 0,.int .u32 t.lock]) rfl rfl o14.one z5 (Nat.le_of_ble_eq_true rfl) (fun w15 c15 a15=>?_)
   have o15:=o14.step c15 (M':=M1) (by intro y hy;simp at hy;subst hy;exact ⟨h5w,.inl m5⟩) (fun _ h=>.inl h)
   have x15:Unit→Ext w w15:=fun _=>(Ext.chg ((x6' ()).trans (x10.trans x13)) (c14.trans c15)).mono (by
    intro y hy
    rcases List.mem_append.1 hy with h|h
    ·have:=gi _ h;right;omega
    ·simp at h;right;omega)
   have s14:=c14.size
   have s15:=c15.size
   have s610:=x10.size
   clear x13
   have hi64:i≤1000:=by omega
   have hi65: -9223372036854775808≤(i:Int)+1∧(i:Int)+1≤9223372036854775807:=by omega
   apply z1
   apply zr
   apply zo
   apply zh
   apply z0
   refine st_add rfl rfl hi65 ?_
   clear hM7b mvi m7 hM7 hp5 hp6 hwl
   repeat (first|refine go1 ?_|refine zg (fun _ _=>?_)|refine zi (fun _ _=>?_))
   refine ⟨(i+1,v14,L++ [⟨⟨S,t.ins[i].p.i⟩,t.ins[i].q,W⟩]),⟨rfl,rfl,rfl,rfl,rfl,trivial⟩,⟨x15 (),by omega,At.chg c15 z3 (by simp;omega),by simp;omega,by simp;omega,by simp;omega,?_,At.chg c15 z4 (by simp;omega),a15,o15⟩,by simp;omega⟩
   intro x hx
   rcases List.mem_append.1 hx with h|h
   ·exact hLm x h
   ·simp at h;subst h;simp only;omega
 all_goals
  have hI0:=o1.base
  have hI1:=o1.lt
  have x6':Unit→Ext w w6:=fun _=>x6
  clear x6 xw
  repeat' (first|(refine c_cutV (a:=.seq (.reg false (.cons ⟨some 111,_,none⟩ _)) _) (fun (S:ByteArray) w'=>Ext w7 w'∧At w' b11 (.cells (outCs ⟨t.outs[k].v,S⟩).toArray T.api_Out (0,0))) (fun _=> [(1,.int .i64 (most:Nat)),(2,.pointer (some ⟨bp,0,none⟩)),(4,.pointer (some ⟨b4,0,none⟩)),(5,.pointer (some ⟨b5,0,none⟩)),(10,.int .i64 k),(11,.pointer (some ⟨b11,0,none⟩))]) ?_ ?_)|(rintro S ρ7 w12 ⟨x712,a12⟩;clear x11 a11 r11;have r12:=Row.of_at a12)|(first|refine go1 ?_|refine zg (fun _ _=>?_)|refine zi (fun _ _=>?_))|refine zJ rfl (fun h=>?_) (fun h=>?_)|refine zL rfl (fun h=>?_) (fun h=>?_)|(refine st_takeStr rfl rfl (by omega) ?_)|(refine st_store (d:=none) (b:=b11) (o:=1) rfl rfl rfl a11 (Nat.le_of_ble_eq_true rfl) (fun w12 c12 a12=>?_))|(refine st_lenR (E:=outR) (M:=M) (l:=t.outs) rfl (SlR.ext h2 x7) ?_)|(refine c_loopV (fun (p:Nat × Value × List TOut) w'=>Ext w w'∧w6.heap.size≤w'.heap.size∧At w' bp (.cells (txCs t iv ov).toArray T.api_Tx (0,0))∧p.1≤t.outs.length∧p.1≤most∧p.2.2.length=p.1∧At w' b4 (.cells [Value.int .u32 0,.slice none 0 0,.slice none 0 0,.int .u32 0].toArray T.api_Tx (0,0))∧At w' b5 (.cells [Value.int .u32 t.ver,vi,p.2.1,.int .u32 t.lock].toArray T.api_Tx (0,0))∧OwnR inR T.api_In w5.heap.size (blkOf p.2.1++M1) w' vi L∧OwnR outR T.api_Out w6.heap.size (blkOf vi++M1) w' p.2.1 p.2.2) (fun p=> [(1,.int .i64 (most:Nat)),(2,.pointer (some ⟨bp,0,none⟩)),(4,.pointer (some ⟨b4,0,none⟩)),(5,.pointer (some ⟨b5,0,none⟩)),(10,.int .i64 p.1)]) (fun p=>most - p.1) (0,.slice none 0 0, []) ⟨rfl,rfl,rfl,rfl,rfl,trivial⟩ ⟨x6' (),Nat.le_refl _,q3,by simp,by simp,rfl,q4,q5,o1,OwnR.nil _ _ _ _⟩ ?_;rintro ⟨k,vo,O⟩ ρ7 w7 ⟨x7,s67,t3,hk1,hk2,hO,t4,t5,u1,u2⟩;simp only at hk1 hk2 hO t5 u1 u2;dsimp only;have t3r:=Row.of_at t3;have t5r:Row w7 ⟨b5,0,none⟩ [Value.int .u32 t.ver,vi,vo,.int .u32 t.lock]:=Row.of_at t5)|(refine st_elemR (d:=some 109) (E:=outR) (M:=M) rfl rfl (n:=k) (l:=t.outs) (SlR.ext h2 x7) rfl (by omega) (fun ad cs r10 he=>?_);obtain ⟨rfl,hv10⟩:=he;have hkl:k<t.outs.length:=by omega)|(refine zE (fun _=>rfl) rfl rfl rfl (fun b11 w11 x11 a11 (r11:Row w11 ⟨b11,0,none⟩ (outCs t.outs[k])) hb11=>?_);have l11:=a11.lt)|(refine zI (d:=some 122) (cs:=outCs ⟨t.outs[k].v,S⟩) rfl (fun b w13 x13 a13 hb13=>?_);have s713:=Ext.size (w:=w7) (w':=w13) (by exact fx))|(refine st_append1 (d:=some 123) (E:=outR) (M:=blkOf vi++M1) (v:=vo) (cs:=outCs ⟨t.outs[k].v,S⟩) (a:=⟨t.outs[k].v,S⟩) rfl rfl ((u2.ext x712).ext x13) (by omega) rfl rfl a13 ⟨rfl,hv10⟩ (by omega) (fun v14 w14 o14 c14 hb14=>?_)))
  ·exact ⟨t.outs[k].s.extract 0 50,⟨rfl,rfl,rfl,rfl,rfl,rfl,trivial⟩,(x11.chg c12).mono (by intro y hy;simp at hy;right;omega),a12⟩
  ·exact ⟨_,⟨rfl,rfl,rfl,rfl,rfl,rfl,trivial⟩,x11,a11⟩
  ·have g2:=u2.base
   have h3o:bp∉blkOf vo:=fun h=>by have:=g2 _ h;omega
   have h4o:b4∉blkOf vo:=fun h=>by have:=g2 _ h;omega
   have h5o:b5∉blkOf vo:=fun h=>by have:=g2 _ h;omega
   have hvo:∀b∈blkOf vo,b∉blkOf vi:=fun b h h'=>by have:=g2 _ h;have:=hI1 _ h';omega
   have u1':=(u1.ext (x712.trans x13)).step c14 (M':=blkOf v14++M1) (fun b h=>⟨hvo b h,.inl (by simp [h])⟩) (fun b h=>by
    rcases List.mem_append.1 h with h|h
    ·rcases hb14 b h with h|h
     ·exact .inl (by simp [h])
     ·exact .inr h
    ·exact .inl (by simp [h]))
   have t3':=At.chg c14 (t3.ext (x712.trans x13)) h3o
   have t4':=At.chg c14 (t4.ext (x712.trans x13)) h4o
   have t5':=At.chg c14 (t5.ext (x712.trans x13)) h5o
   have g14:=o14.base
   have s14:=c14.size
   have xwx:Unit→Chg (blkOf vo) w w14:=fun _=>Ext.chg (x7.trans (x712.trans x13)) c14
   refine st_store (d:=none) (b:=b5) (o:=2) (cur:= [Value.int .u32 t.ver,vi,vo,.int .u32 t.lock]) rfl rfl o14.one t5' (Nat.le_of_ble_eq_true rfl) (fun w15 c15 a15=>?_)
   have h5v:b5∉blkOf vi:=fun h=>by have:=hI0 _ h;omega
   have h5w:b5∉blkOf v14:=fun h=>by have:=g14 _ h;omega
   have u15:=u1'.step c15 (M':=blkOf v14++M1) (by intro y hy;simp at hy;subst hy;exact ⟨h5v,.inl (by simp [m5])⟩) (fun _ h=>.inl h)
   have o15:=o14.step c15 (M':=blkOf vi++M1) (by intro y hy;simp at hy;subst hy;exact ⟨h5w,.inl (by simp [m5])⟩) (fun _ h=>.inl h)
   have s15:=c15.size
   have x15:Unit→Ext w w15:=fun _=>((xwx ()).trans c15).mono (by
    intro y hy
    rcases List.mem_append.1 hy with h|h
    ·have:=g2 _ h;right;omega
    ·simp at h;right;omega)
   have hk64:k≤1000:=by omega
   repeat (first|refine go1 ?_|refine zg (fun _ _=>?_)|refine zi (fun _ _=>?_))
   exact ⟨(k+1,v14,O++ [⟨t.outs[k].v,S⟩]),⟨rfl,rfl,rfl,rfl,rfl,trivial⟩,⟨x15 (),by omega,At.chg c15 t3' (by simp;omega),by simp;omega,by simp;omega,by simp;omega,At.chg c15 t4' (by simp;omega),a15,u15,o15⟩,by simp;omega⟩
  all_goals
   refine st_setN (w0:=w) (vs:= [Value.int .u32 t.ver,vi,vo,.int .u32 t.lock]) x7 (by omega) t4 rfl rfl rfl rfl ?_ (fun w12 x12 c12 a12 r12=>?_)
   ·have e1:=u1.one
    have e2:=u2.one
    simp [e1,e2];exact ⟨rfl,rfl⟩
   repeat (first|refine go1 ?_|refine zg (fun _ _=>?_)|refine zi (fun _ _=>?_))
   have g2:=u2.base
   have h4i:b4∉blkOf vi:=fun h=>by have:=hI0 _ h;omega
   have h4o:b4∉blkOf vo:=fun h=>by have:=g2 _ h;omega
   have p1:=(u1.step (M':=M1) c12 (by intro y hy;simp at hy;subst hy;exact ⟨h4i,.inl (by simp [m4])⟩) (fun _ h=>.inl (by simp [h]))).sub (M':=M) (fun b hb=>.inl (mM b hb))
   have p2:=(u2.step (M':=M1) c12 (by intro y hy;simp at hy;subst hy;exact ⟨h4o,.inl (by simp [m4])⟩) (fun _ h=>.inl (by simp [h]))).sub (M':=M) (fun b hb=>.inl (mM b hb))
   exact x_ret (ret1 (rv_cell r12 rfl rfl)) ⟨_,⟨t.ver,L,O,t.lock⟩,rfl,⟨vi,vo,rfl,p1.lower (by omega),p2.lower (by omega),h3⟩,⟨by simp only;omega,by simp only;omega,hLm⟩,x12⟩
end Go.Proofs.YtfebcajheojodaaGreatDoor
end
