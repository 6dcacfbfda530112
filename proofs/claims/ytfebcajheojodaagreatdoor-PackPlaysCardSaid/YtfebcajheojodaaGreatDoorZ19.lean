/- Contracts: parents and children of an entry. Plain: a search -/
import Derived.Test.YtfebcajheojodaaGreatDoorZ18
set_option linter.unusedVariables false
set_option linter.unusedSimpArgs false
namespace Go.Proofs.YtfebcajheojodaaGreatDoor
section
open Go Go.K
attribute [local irreducible] aO aU bQ KOp.wp K.Spec u32 leS vnS str aV cU cD idT aR aG aX idN dG bD bH spends
def eH (l:List Ent) (ins:List TIn):List ByteArray:=(ins.filter fun i=>dM l i.p).map fun i=>i.p.s
def jK (l:List Ent) (id:ByteArray):Nat→List ByteArray
 |0=> []
 |n+1=>jK l id n++(match spE l ⟨id,(n:Nat)⟩ with|some e=> [e.id]|none=> [])
theorem xE (l:List Ent) (id:ByteArray):∀n,(jK l id n).length≤n
 |0=>by simp [jK]
 |n+1=>by
  have:=xE l id n
  unfold jK
  rw [List.length_append]
  split<;>simp<;>omega
theorem rG (l:List Ent) (ins:List TIn):(eH l ins).length≤ins.length:=by
 unfold eH;rw [List.length_map];exact List.length_filter_le _ _
theorem aFk {l:List Ent} {ins:List TIn} {i:Nat} (h:i<ins.length):eH l (ins.take (i+1))=eH l (ins.take i)++(if dM l ins[i].p then [ins[i].p.s] else []):=by
 rw [List.take_succ_eq_append_getElem h]
 unfold eH
 rw [List.filter_append,List.map_append]
 congr 1
 by_cases h2:dM l ins[i].p=true
 ·rw [if_pos h2,List.filter_cons_of_pos (p:=fun i:TIn=>dM l i.p) h2];rfl
 ·rw [if_neg h2,List.filter_cons_of_neg (p:=fun i:TIn=>dM l i.p) h2];rfl
theorem aIc {g : Nat} {M N : List Nat} {l : List Ent} {cs : List Value} {t : Tx} (w : World) (hG : GrR w g M l) (hM : ∀ b ∈ M, b < w.heap.size) (ht : txR.rel N w cs t) (hs : t.ins.length ≤ 100000) : K.Spec Tryz.prog F.graph_Graph_parents [.pointer (some ⟨g, 0, none⟩), .agg cs.toArray] w fun r w' =>
    Own bO T.string w.heap.size w' r (eH l t.ins) ∧ Ext w w' := by
  obtain ⟨iv, ov, rfl, h1, h2, h3⟩ := ht
  refine aBj rfl ?_
  unfold pH
  refine oy ?_
  repeat' (first|refine go1 ?_|refine zg λ_ _=>?_|refine zi λ_ _=>?_|refine zD rfl rfl (fun bp wp xp ap (rp : Row wp ⟨bp, 0, none⟩ (aK t iv ov)) hp0=>?_)|refine zL rfl (fun h => ?_) (fun h => ?_)|refine zM rfl (fun h => ?_) (fun h => ?_)|refine zG (E := inR) (M := N) (l := t.ins) rfl (SlR.ext h1 (by exact fx)) ?_|(refine aQ (fun (p : Nat × Value) w' => Ext w w' ∧ p.1 ≤ t.ins.length ∧ Own bO T.string w.heap.size w' p.2 (eH l (t.ins.take p.1))) (fun p => [(0, .pointer (some ⟨g, 0, none⟩)), (5, p.2), (11, iv), (12, .int .i64 (t.ins.length : Nat)), (13, .int .i64 p.1)]) (fun p => t.ins.length - p.1) (0, .slice none 0 0) ⟨rfl, rfl, rfl, rfl, rfl, trivial⟩ ⟨by exact fx, by simp, Own.nil _ _ _⟩ ?_; clear rp ap; rintro ⟨i, vr⟩ ρ w3 ⟨x3, hi, ho⟩; simp only at hi ho; dsimp only)|(refine aL (d := some 15) (E := inR) (M := N) rfl rfl (n := i) (l := t.ins) (SlR.ext h1 x3) rfl (by omega) (fun ad cs r4 he => ?_); obtain ⟨wv, rfl, hw, hp5, hp6⟩ := he; obtain ⟨bs1, cp1, rfl⟩ := hw.form; have hil : i < t.ins.length := (by omega))|refine zE (d' := 7) (fun _=>rfl) rfl rfl rfl (fun b7 w7 x7 a7 (r7 : Row w7 ⟨b7, 0, none⟩ (gO t.ins[i] (.slice bs1 t.ins[i].wit.length cp1))) hb7=>?_)|(refine zC rfl (aJs (M := M) t.ins[i].p hp5 _ (hG.ext (Ext.trans x3 (by exact fx))) (fun b hb => nLt (hM b hb) (Ext.size (by exact fx)))) ?_; rintro _ w8 ⟨o, rfl, ho8, x8⟩)|refine zE (d' := 8) (fun _=>rfl) rfl rfl rfl (fun b9 w9 x9 a9 r9 hb9=>?_)|refine zI (d := some 29) (cs := [.string t.ins[i].p.s]) rfl (fun b w10 x10 a10 hb => ?_)|refine cK (E := bO) (v := vr) (l2 := [t.ins[i].p.s]) rfl (ho.ext (by exact fx)) (Ext.size (w := w) (by exact fx)) rfl rfl (eS a10 rfl) rfl rfl (by have := rG l (t.ins.take i); have : (t.ins.take i).length ≤ t.ins.length := (by rw [List.length_take]; omega); simp only [List.length_cons, List.length_nil]; omega) (fun v11 w11 o11 c11 => ?_))
  all_goals first
    | exact ⟨(i + 1, v11), ⟨rfl, rfl, rfl, rfl, rfl, trivial⟩, ⟨(Ext.chg (w := w) (by exact fx) c11).mono (fun b hb => .inr (ho.base b (by simpa using hb))), by simp; omega, by show Own _ _ _ _ _ (eH l (t.ins.take (i + 1))); rw [aFk hil, if_pos h]; exact o11⟩, by simp; omega⟩
    | exact ⟨(i + 1, vr), ⟨rfl, rfl, rfl, rfl, rfl, trivial⟩, ⟨by exact fx, by simp; omega, by show Own _ _ _ _ _ (eH l (t.ins.take (i + 1))); rw [aFk hil, if_neg (by rw [h]; decide), List.append_nil]; exact Own.ext (w := w3) (by exact fx) ho⟩, by simp; omega⟩
    | (rw [tLe (by omega)] at ho
       exact aC rfl ⟨ho, by exact fx⟩)
    | trace_state
theorem bMj {n:Nat} (h:n<4294967296):IntKind.u32.wrap (n:Nat)=(n:Nat):=by
 have e:IntKind.u32.wrap (n:Nat)=(n:Nat)%4294967296:=rfl
 rw [e];omega
theorem aQ9 {g : Nat} {M N : List Nat} {l : List Ent} {cs : List Value} {x : Ent} (w : World) (hG : GrR w g M l) (hx : bF.rel N w cs x) (hs : x.tx.outs.length ≤ 100000) : K.Spec Tryz.prog F.graph_Graph_children [.pointer (some ⟨g, 0, none⟩), .agg cs.toArray] w fun r w' =>
    Own bO T.string w.heap.size w' r (jK l x.id x.tx.outs.length) ∧ Ext w w' := by
  obtain ⟨iv, ov, rfl, h1, h2, h3⟩ := hx
  refine aAz rfl ?_
  unfold nK
  refine oy ?_
  repeat' (first|refine aJ (d := some 21) (.int .u32 (i : Nat)) rfl (congrArg (fun n => some (Value.int .u32 n)) (bMj (by omega))) ?_|refine bL (d := some 22) (cs := (⟨x.id, (i : Nat)⟩ : Pt).cs) rfl ?_|refine go1 ?_|refine zg λ_ _=>?_|refine zi λ_ _=>?_|refine zD rfl rfl (fun bp wp xp ap (rp : Row wp ⟨bp, 0, none⟩ (bN x iv ov)) hp0=>?_)|refine zL rfl (fun h => ?_) (fun h => ?_)|refine zM rfl (fun h => ?_) (fun h => ?_)|refine zG (E := eX) (M := N) (l := x.tx.outs) rfl (SlR.ext h2 (by exact fx)) ?_|(refine aQ (fun (p : Nat × Value) w' => Ext wp w' ∧ p.1 ≤ x.tx.outs.length ∧ Own bO T.string wp.heap.size w' p.2 (jK l x.id p.1)) (fun p => [(0, .pointer (some ⟨g, 0, none⟩)), (3, .pointer (some ⟨bp, 0, none⟩)), (5, p.2), (12, .int .i64 (x.tx.outs.length : Nat)), (13, .int .i64 p.1)]) (fun p => x.tx.outs.length - p.1) (0, .slice none 0 0) ⟨rfl, rfl, rfl, rfl, rfl, trivial⟩ ⟨by exact fx, by simp, Own.nil _ _ _⟩ ?_; rintro ⟨i, vr⟩ ρ w3 ⟨x3, hi, ho⟩; simp only at hi ho; dsimp only; have hlen := xE l x.id i)|(refine zC rfl (aIp (M := M) ⟨x.id, (i : Nat)⟩ _ (hG.ext (by exact fx))) ?_; rintro _ w8 ⟨rfl, x8⟩)|refine zI (d := some 29) (cs := [.string (uN l ⟨x.id, (i : Nat)⟩)]) rfl (fun b w10 x10 a10 hb => ?_)|refine cK (E := bO) (v := vr) (l2 := [uN l ⟨x.id, (i : Nat)⟩]) rfl (ho.ext (by exact fx)) (Ext.size (w := wp) (by exact fx)) rfl rfl (eS a10 rfl) rfl rfl (by simp only [List.length_cons, List.length_nil]; omega) (fun v11 w11 o11 c11 => ?_))
  all_goals first
    | (obtain ⟨e, he⟩ := Option.isSome_iff_exists.1 h
       have e1 : uN l ⟨x.id, (i : Nat)⟩ = e.id := by unfold uN; rw [he]; rfl
       rw [e1] at o11
       exact ⟨(i + 1, v11), ⟨rfl, rfl, rfl, rfl, rfl, trivial⟩, ⟨(Ext.chg (w := wp) (by exact fx) c11).mono (fun b hb => .inr (ho.base b (by simpa using hb))), by simp; omega, by show Own _ _ _ _ _ (jK l x.id (i + 1)); unfold jK; rw [he]; exact o11⟩, by simp; omega⟩)
    | (have he : spE l ⟨x.id, (i : Nat)⟩ = none := by simpa using h
       exact ⟨(i + 1, vr), ⟨rfl, rfl, rfl, rfl, rfl, trivial⟩, ⟨by exact fx, by simp; omega, by show Own _ _ _ _ _ (jK l x.id (i + 1)); unfold jK; rw [he, List.append_nil]; exact Own.ext (w := w3) (by exact fx) ho⟩, by simp; omega⟩)
    | (have ei : i = x.tx.outs.length := by omega
       subst ei
       exact aC rfl ⟨ho.lower xp.size, xp.trans x3⟩)
    | trace_state
end
end Go.Proofs.YtfebcajheojodaaGreatDoor
namespace Go.K
section
open Go
def named (l:List Ent) (ids:List ByteArray) (i:Nat):Bool:=ids.any fun s=>decide (s=(cP l i).id)
def bT (l:List Ent) (frm:List ByteArray) (nxt:Ent→List ByteArray):List Bool:=nS (named l frm) (fun k i=>named l (nxt (cP l k)) i) l.length
abbrev bHq (l:List Ent) (frm:List ByteArray) (nxt:Ent→List ByteArray) (i:Nat):Bool:=bD (named l frm) (fun k i=>named l (nxt (cP l k)) i) l.length l.length i
def pA (met:List (ByteArray × Nat)) (id:ByteArray):Bool:=(aS met id).isSome
def cF (met:List (ByteArray × Nat)) (nxt:Ent→List ByteArray) (l:List Ent):Nat:=(l.map fun x=>if pA met x.id then 0 else (nxt x).length).sum
structure BInv (l:List Ent) (frm:List ByteArray) (nxt:Ent→List ByteArray) (T:List ByteArray) (met:List (ByteArray × Nat)):Prop where
 todo:∀id∈T,∃i,i<l.length∧(cP l i).id=id∧bHq l frm nxt i=true
 seen:∀id,pA met id=true→∃i,i<l.length∧(cP l i).id=id∧bHq l frm nxt i=true
 pos:∀id c,aS met id=some c→1≤c
 from0:∀id∈frm,id∈T∨pA met id=true
 next0:∀i,i<l.length→pA met (cP l i).id=true→∀s∈nxt (cP l i),s∈T∨pA met s=true
section
variable {l:List Ent} {frm:List ByteArray} {nxt:Ent→List ByteArray} {T:List ByteArray} {met:List (ByteArray × Nat)}
theorem pO {ids:List ByteArray} {i:Nat}:named l ids i=true↔(cP l i).id∈ids:=by
 unfold named
 rw [List.any_eq_true]
 constructor
 ·rintro ⟨s,h1,h2⟩;rw [←of_decide_eq_true h2];exact h1
 ·intro h;exact ⟨_,h,dTr rfl⟩
theorem nJ {id s:ByteArray} {c:Nat}:pA (fN met id c) s=(decide (id=s)||pA met s):=by
 unfold pA
 rw [dB]
 by_cases h:id=s<;>simp [h]
theorem BInv.start (h:∀id∈frm,∃i,i<l.length∧(cP l i).id=id):BInv l frm nxt frm [] where
 todo:=fun id hid=>by
  obtain ⟨i,h1,h2⟩:=h id hid
  exact ⟨i,h1,h2,tK h1 (pO.2 (by rw [h2];exact hid))⟩
 seen:=fun id h=>by simp [pA,aS] at h
 pos:=fun id c h=>by simp [aS] at h
 from0:=fun id h=>.inl h
 next0:=fun i _ h=>by simp [pA,aS] at h
theorem BInv.again {id:ByteArray} {c:Nat} (h:BInv l frm nxt (id::T) met) (hc:aS met id=some c):BInv l frm nxt T (fN met id (c+1)) where
 todo:=fun s hs=>h.todo s (by simp [hs])
 seen:=fun s hs=>by
  rw [nJ] at hs
  by_cases e:id=s
  ·subst e;exact h.seen id (by unfold pA;rw [hc];rfl)
  ·simp [e] at hs;exact h.seen s hs
 pos:=fun s d hd=>by
  rw [dB] at hd
  split at hd
  ·injection hd with hd;omega
  ·exact h.pos s d hd
 from0:=fun s hs=>by
  rw [nJ]
  rcases h.from0 s hs with h1|h1
  ·rcases List.mem_cons.1 h1 with rfl|h1
   ·exact .inr (by simp)
   ·exact .inl h1
  ·exact .inr (by simp [h1])
 next0:=fun i hi hm s hs=>by
  rw [nJ] at hm
  have hm':pA met (cP l i).id=true:=by
   by_cases e:id=(cP l i).id
   ·rw [←e];unfold pA;rw [hc];rfl
   ·simpa [e] using hm
  rw [nJ]
  rcases h.next0 i hi hm' s hs with h1|h1
  ·rcases List.mem_cons.1 h1 with rfl|h1
   ·exact .inr (by simp)
   ·exact .inl h1
  ·exact .inr (by simp [h1])
theorem kJ (hn:(l.map (·.id)).Nodup) {i j:Nat} (hi:i<l.length) (hj:j<l.length) (h:(cP l i).id=(cP l j).id):i=j:=by
 rw [bJ hi,bJ hj] at h
 have key:=List.pairwise_iff_getElem.1 hn
 rcases Nat.lt_trichotomy i j with h1|h1|h1
 ·exact absurd (by rw [List.getElem_map,List.getElem_map];exact h) (key i j (by simpa using hi) (by simpa using hj) h1)
 ·exact h1
 ·exact absurd (by rw [List.getElem_map,List.getElem_map];exact h.symm) (key j i (by simpa using hj) (by simpa using hi) h1)
theorem BInv.first {i:Nat} (hn:(l.map (·.id)).Nodup) (hi:i<l.length) (h:BInv l frm nxt ((cP l i).id::T) met) (hc:aS met (cP l i).id=none) (hin:∀s∈nxt (cP l i),∃j,j<l.length∧(cP l j).id=s):BInv l frm nxt (T++nxt (cP l i)) (fN met (cP l i).id 1) where
 todo:=fun s hs=>by
  rcases List.mem_append.1 hs with h1|h1
  ·exact h.todo s (by simp [h1])
  ·obtain ⟨j,hj,ej⟩:=hin s h1
   obtain ⟨i',hi',ei,hs'⟩:=h.todo (cP l i).id (by simp)
   have:i'=i:=kJ hn hi' hi ei
   subst this
   exact ⟨j,hj,ej,lA hj hi hs' (pO.2 (by rw [ej];exact h1))⟩
 seen:=fun s hs=>by
  rw [nJ] at hs
  by_cases e:(cP l i).id=s
  ·subst e;exact h.todo _ (by simp)
  ·simp [e] at hs;exact h.seen s hs
 pos:=fun s d hd=>by
  rw [dB] at hd
  split at hd
  ·injection hd with hd;omega
  ·exact h.pos s d hd
 from0:=fun s hs=>by
  rw [nJ]
  rcases h.from0 s hs with h1|h1
  ·rcases List.mem_cons.1 h1 with rfl|h1
   ·exact .inr (by simp)
   ·exact .inl (by simp [h1])
  ·exact .inr (by simp [h1])
 next0:=fun j hj hm s hs=>by
  rw [nJ] at hm ⊢
  by_cases e:(cP l i).id=(cP l j).id
  ·have:i=j:=kJ hn hi hj e
   subst this
   exact .inl (by simp [hs])
  ·simp [e] at hm
   rcases h.next0 j hj hm s hs with h1|h1
   ·rcases List.mem_cons.1 h1 with rfl|h1
    ·exact .inr (by simp)
    ·exact .inl (by simp [h1])
   ·exact .inr (by simp [h1])
theorem BInv.done (h:BInv l frm nxt [] met) (i:Nat) (hi:i<l.length) (hn:(l.map (·.id)).Nodup):pA met (cP l i).id=bHq l frm nxt i:=by
 rw [Bool.eq_iff_iff]
 constructor
 ·intro hm
  obtain ⟨j,hj,ej,hs⟩:=h.seen _ hm
  rw [←kJ hn hj hi ej];exact hs
 ·refine fun hs=>aCe (p:=fun i=>pA met (cP l i).id=true) (fun j _ hb=>?_) (fun k j hk _ hm he=>?_) _ i hi hs
  ·rcases h.from0 _ (pO.1 hb) with h1|h1
   ·simp at h1
   ·exact h1
  ·rcases h.next0 k hk hm _ (pO.1 he) with h1|h1
   ·simp at h1
   ·exact h1
theorem tW (met:List (ByteArray × Nat)) (nxt:Ent→List ByteArray) (x:Ent) (l:List Ent):cF met nxt (x::l)=(if pA met x.id then 0 else (nxt x).length)+cF met nxt l:=by simp [cF]
theorem aYs (met:List (ByteArray × Nat)) (nxt:Ent→List ByteArray) {c:Nat}:∀(l:List Ent),(∀x∈l,(nxt x).length≤c)→cF met nxt l≤c*l.length
 | [],_=>by simp [cF]
 |x::l,h=>by
  have h1:=aYs met nxt l fun y hy=>h y (by simp [hy])
  have h2:=h x (by simp)
  rw [tW,List.length_cons,Nat.mul_add]
  split<;>omega
theorem xK {id:ByteArray} {c:Nat}:∀(l:List Ent),cF (fN met id c) nxt l≤cF met nxt l
 | []=>by simp [cF]
 |x::l=>by
  have h1:=xK (id:=id) (c:=c) l
  rw [tW,tW,nJ]
  refine Nat.add_le_add ?_ h1
  by_cases e:id=x.id<;>by_cases m:pA met x.id=true<;>simp [e,m]
theorem aMy {x:Ent} {c:Nat}:∀{l:List Ent},x∈l→pA met x.id=false→cF (fN met x.id c) nxt l+(nxt x).length≤cF met nxt l
 |y::l,hx,hm=>by
  have h0:=xK (met:=met) (nxt:=nxt) (id:=x.id) (c:=c) l
  rw [tW,tW,nJ]
  rcases List.mem_cons.1 hx with e|hx
  ·subst e
   rw [hm,dTr rfl]
   simp only [Bool.true_or,if_true,Bool.false_eq_true,if_false]
   omega
  ·have h1:=aMy (c:=c) hx hm
   have h2:(if (decide (x.id=y.id)||pA met y.id)=true then 0 else (nxt y).length)≤(if pA met y.id=true then 0 else (nxt y).length):=by
    by_cases e:x.id=y.id<;>by_cases m:pA met y.id=true<;>simp [e,m]
   omega
end
theorem bAz {l:List Ent} {p:ByteArray→Bool} {q:Nat→Bool} (h:∀i (hi:i<l.length),p l[i].id=q i):(l.map (·.id)).filter p=aM l ((List.range l.length).map q):=by
 induction l generalizing q with
 |nil=>rfl
 |cons x l ih=>
  have h0:=h 0 (by simp)
  have h1:=ih (q:=fun i=>q (i+1)) (fun i hi=>h (i+1) (by simpa using hi))
  simp only [List.getElem_cons_zero] at h0
  rw [List.map_cons,List.filter_cons,h1,List.length_cons,List.range_succ_eq_map,List.map_cons,List.map_map,aM,h0]
  rfl
end
section
open Go
theorem aCh {base base':Nat→Bool} {edge edge':Nat→Nat→Bool} {n:Nat} (hb:∀i,i<n→base i=base' i) (he:∀k i,k<n→i<n→edge k i=edge' k i):∀(r i:Nat),i<n→bD base edge n r i=bD base' edge' n r i
 |0,_,_=>rfl
 |r+1,i,hi=>by
  rw [Bool.eq_iff_iff,hY,hY,hb i hi]
  refine or_congr Iff.rfl ⟨fun ⟨k,h1,h2,h3⟩=>⟨k,h1,?_,?_⟩,fun ⟨k,h1,h2,h3⟩=>⟨k,h1,?_,?_⟩⟩
  ·rw [←aCh hb he r k h1];exact h2
  ·rw [←he k i h1 hi];exact h3
  ·rw [aCh hb he r k h1];exact h2
  ·rw [he k i h1 hi];exact h3
theorem aJh {base base':Nat→Bool} {edge edge':Nat→Nat→Bool} {n:Nat} (hb:∀i,i<n→base i=base' i) (he:∀k i,k<n→i<n→edge k i=edge' k i):nS base edge n=nS base' edge' n:=by
 unfold nS
 refine List.map_congr_left fun i hi=>aCh hb he n i (by simpa using hi)
theorem aIn {l:List Ent} (hn:(l.map (·.id)).Nodup) {i:Nat} (hi:i<l.length):(l.find? fun x=>decide (x.id=l[i].id))=some l[i]:=by
 cases h:l.find? fun y=>decide (y.id=l[i].id) with
 |none=>exact absurd (List.find?_eq_none.1 h _ (gMe hi)) (by simp)
 |some y=>
  have h1:=List.mem_of_find?_eq_some h
  have h2:y.id=l[i].id:=by simpa using List.find?_some h
  obtain ⟨j,hj,rfl⟩:=List.getElem_of_mem h1
  have:=kJ hn hj hi (by rw [bJ hj,bJ hi];exact h2)
  subst this;rfl
theorem bMi {l:List Ent} (ha:l.Pairwise fun x y=>∀p,spends x p=true→spends y p=false) {i:Nat} (hi:i<l.length) {p:Pt} (hp:spends l[i] p=true):(l.find? fun x=>spends x p)=some l[i]:=by
 induction l generalizing i with
 |nil=>simp at hi
 |cons x l ih=>
  rw [List.pairwise_cons] at ha
  cases i with
  |zero=>
   simp only [List.getElem_cons_zero] at hp ⊢
   exact List.find?_cons_of_pos (p:=fun x=>spends x p) hp
  |succ i=>
   simp only [List.getElem_cons_succ] at hp ⊢
   have h1:¬spends x p=true:=fun h=>by
    rw [ha.1 _ (gMe (by simpa using hi)) p h] at hp;cases hp
   rw [List.find?_cons_of_neg (p:=fun x=>spends x p) h1]
   exact ih ha.2 (by simpa using hi) hp
theorem aZ8 {l:List Ent} {m:List Bool} (h:∀b∈m,b=false):aM l m= []:=by
 induction l generalizing m with
 |nil=>cases m<;>rfl
 |cons x l ih=>cases m with
  |nil=>rfl
  |cons b m=>
   rw [aM,h b (by simp)]
   exact ih fun c hc=>h c (by simp [hc])
end
end Go.K
namespace Go.Proofs.YtfebcajheojodaaGreatDoor
section
open Go Go.K
attribute [local irreducible] aO aU bQ KOp.wp K.Spec u32 leS vnS str aV cU cD idT aR aG aX idN bD cF
theorem GrR.pos {w:World} {g:Nat} {M:List Nat} {l:List Ent} (h:GrR w g M l):∀x∈l,∀i∈x.tx.ins,dV i.p.i:=by
 obtain ⟨b1,vo,b2,m,sp,h⟩:=h
 intro x hx i hi
 obtain ⟨mv,h1,h2⟩:=h.ents
 have hg:aS m x.id=some x:=by
  rw [h.inv.ent]
  obtain ⟨j,hj,rfl⟩:=List.getElem_of_mem hx
  exact aIn h.inv.nodup hj
 obtain ⟨v,e,cs,e2,hr⟩:=(aJw (r:=fun v y=>∃cs,v=bF.val cs∧bF.rel M w cs y) (k:=x.id) h2).1 x hg
 obtain ⟨iv,ov,e3,g1,g2,g3⟩:=hr
 obtain ⟨css,k1,k2,k3⟩:=g1
 obtain ⟨j,hj,rfl⟩:=List.getElem_of_mem hi
 obtain ⟨wv,k4,k5,k6,k7⟩:=k2.get j (by rw [k2.length];exact hj) hj
 exact k6
theorem aFd {l:List Ent} (hn:(l.map (·.id)).Nodup) {t:Tx} {i:Nat} (hi:i<l.length):named l (eH l t.ins) i=dG t (cP l i):=by
 rw [Bool.eq_iff_iff,pO]
 unfold dG eH
 rw [List.any_eq_true,List.mem_map,bJ hi]
 constructor
 ·rintro ⟨x,hx,e⟩
  obtain ⟨h1,h2⟩:=List.mem_filter.1 hx
  refine ⟨x,h1,?_⟩
  unfold dM dO dR at h2
  rw [e,aIn hn hi] at h2
  rw [Bool.and_eq_true] at h2
  rw [Bool.and_eq_true]
  exact ⟨dTr e,h2.2⟩
 ·rintro ⟨x,hx,h2⟩
  rw [Bool.and_eq_true] at h2
  have e:=of_decide_eq_true h2.1
  refine ⟨x,List.mem_filter.2 ⟨hx,?_⟩,e⟩
  unfold dM dO dR
  rw [e,aIn hn hi,Bool.and_eq_true]
  exact ⟨aC9 hi (dTr rfl),h2.2⟩
theorem bH9 {l:List Ent} (hn:(l.map (·.id)).Nodup) (t:Tx):bT l (eH l t.ins) (fun x=>eH l x.tx.ins)=aZ l t:=
 aJh (fun i hi=>aFd hn hi) (fun k i hk hi=>by rw [gY,aFd hn hi])
theorem aF7 {l:List Ent} {id s:ByteArray}:∀{n:Nat},s∈jK l id n↔∃j,j<n∧∃e,spE l ⟨id,(j:Nat)⟩=some e∧e.id=s
 |0=>by simp [jK]
 |n+1=>by
  unfold jK
  rw [List.mem_append,aF7]
  constructor
  ·rintro (⟨j,h1,h2⟩|h)
   ·exact ⟨j,by omega,h2⟩
   ·cases he:spE l ⟨id,(n:Nat)⟩ with
    |none=>rw [he] at h;simp at h
    |some e=>rw [he] at h;simp at h;exact ⟨n,by omega,e,he,h.symm⟩
  ·rintro ⟨j,h1,e,h2,h3⟩
   by_cases hj:j=n
   ·subst hj
    rw [h2];right;simp [h3]
   ·exact .inl ⟨j,by omega,e,h2,h3⟩
theorem aN6 {l:List Ent} (hn:(l.map (·.id)).Nodup) (ha:l.Pairwise fun x y=>∀p,spends x p=true→spends y p=false) (hp:∀x∈l,∀i∈x.tx.ins,dV i.p.i) {k i:Nat} (hk:k<l.length) (hi:i<l.length):named l (jK l (cP l k).id (cP l k).tx.outs.length) i=gY l i k:=by
 rw [Bool.eq_iff_iff,pO,aF7,gY,bJ hk,bJ hi]
 unfold dG
 rw [List.any_eq_true]
 constructor
 ·rintro ⟨j,h1,e,h2,h3⟩
  have h4:=List.mem_of_find?_eq_some h2
  obtain ⟨q,hq,rfl⟩:=List.getElem_of_mem h4
  have:=kJ hn hq hi (by rw [bJ hq,bJ hi];exact h3)
  subst this
  have h5:=List.find?_some h2
  unfold spends at h5
  rw [List.any_eq_true] at h5
  obtain ⟨x,hx,h6⟩:=h5
  have h7:=of_decide_eq_true h6
  exact ⟨x,hx,by rw [Bool.and_eq_true,h7];exact ⟨dTr rfl,dTr (by simp only;omega)⟩⟩
 ·rintro ⟨x,hx,h2⟩
  rw [Bool.and_eq_true] at h2
  have e1:=of_decide_eq_true h2.1
  have e2:=of_decide_eq_true h2.2
  have h32:=hp _ (gMe hi) x hx
  unfold dV at h32
  refine ⟨x.p.i.toNat,by omega,l[i],?_,rfl⟩
  refine bMi ha hi ?_
  unfold spends
  refine List.any_eq_true.2 ⟨x,hx,dTr ?_⟩
  refine aUj e1 ?_
  simp only;omega
theorem bJp {l:List Ent} (hn:(l.map (·.id)).Nodup) (ha:l.Pairwise fun x y=>∀p,spends x p=true→spends y p=false) (hp:∀x∈l,∀i∈x.tx.ins,dV i.p.i) {id:ByteArray}:bT l [id] (fun x=>jK l x.id x.tx.outs.length)=bA l id:=by
 refine aJh (fun i hi=>?_) (fun k i hk hi=>aN6 hn ha hp hk hi)
 rw [Bool.eq_iff_iff,pO,bJ hi]
 simp only [List.mem_singleton,decide_eq_true_eq]
 constructor
 ·intro e
  subst e
  exact (idxOf_hit hi (dTr rfl) (fun j hj=>dFa fun e=>by
   have:=kJ hn (show j<l.length by omega) hi (by rw [bJ (by omega),bJ hi];exact e)
   omega)).symm
 ·intro e
  unfold bH idxOf at e
  split at e
  ·rename_i q hq
   obtain ⟨h1,h2,_⟩:=List.findIdx?_eq_some_iff_getElem.1 hq
   have:i=q:=by omega
   subst this
   exact of_decide_eq_true h2
  ·omega
theorem bGc:cM Tryz.prog F.graph_Graph_Above_1=true:=by kernel_rfl
theorem aX3:cM Tryz.prog F.graph_Graph_children=true:=by kernel_rfl
theorem aYe {g bg:Nat} {M N:List Nat} {l:List Ent} {cs:List Value} {x:Ent} (w:World) (hG:GrR w g M l) (hM:∀b∈M,b<w.heap.size) (hg:At w bg (.cells [.pointer (some ⟨g,0,none⟩)].toArray T.P_graph_Graph (0,0))) (hx:bF.rel N w cs x) (hs:x.tx.ins.length≤100000):K.Spec Tryz.prog F.graph_Graph_Above_1 [.agg cs.toArray,.pointer (some ⟨bg,0,none⟩)] w fun r w'=>
  Own bO T.string w.heap.size w' r (eH l x.tx.ins)∧Ext w w':=by
 obtain ⟨iv,ov,rfl,h1,h2,h3⟩:=hx
 have rg:Row w ⟨bg,0,none⟩ [.pointer (some ⟨g,0,none⟩)]:=Row.of_at hg
 refine aBn rfl ?_
 unfold pI
 refine oy ?_
 repeat' (first|refine go1 ?_|refine zg λ_ _=>?_|refine zi λ_ _=>?_|refine zD rfl rfl (fun bp wp xp ap (rp:Row wp ⟨bp,0,none⟩ (bN x iv ov)) hp0=>?_)|(refine zC rfl (aIc (M:=M) (N:=N) (cs:=aK x.tx iv ov) (t:=x.tx) _ (hG.ext (by exact fx)) (fun b hb=>nLt (hM b hb) (Ext.size (by exact fx))) ⟨iv,ov,rfl,by exact fx,by exact fx,h3.1,h3.2.1⟩ hs) ?_;rintro v5 w5 ⟨o5,x5⟩))
 exact aC rfl ⟨o5.lower xp.size,xp.trans x5⟩
end
end Go.Proofs.YtfebcajheojodaaGreatDoor
namespace Go.K
section
open Go
end
end Go.K
namespace Go.Proofs.YtfebcajheojodaaGreatDoor
section
open Go Go.K
attribute [local irreducible] aO aU bQ KOp.wp K.Spec u32 leS vnS str aV cU cD idT aR aG aX idN bD cF bT bH
theorem txO.off {B b:Nat} {M:List Nat} {w w':World} {ds:List Value} {t:Tx} (h:txO B ([b]++M) w ds t) (hb:b<B) (c:Chg [b] w w'):txO B M w' ds t:=by
 obtain ⟨iv,ov,rfl,o1,o2,o3⟩:=h
 have g1:=o1.base
 have g2:=o2.base
 have n1:b∉aP iv:=fun h=>by have:=g1 _ h;omega
 have n2:b∉aP ov:=fun h=>by have:=g2 _ h;omega
 exact ⟨iv,ov,rfl,o1.step c (by intro q hq;simp at hq;subst hq;exact ⟨n1,.inl (by simp)⟩) (fun _ h=>.inl (List.mem_append_right _ h)),o2.step c (by intro q hq;simp at hq;subst hq;exact ⟨n2,.inl (by simp)⟩) (fun _ h=>.inl (List.mem_append_right _ h)),o3⟩
theorem txO.lower {B B':Nat} {M:List Nat} {w:World} {ds:List Value} {t:Tx} (h:txO B M w ds t) (hb:B'≤B):txO B' M w ds t:=by
 obtain ⟨iv,ov,rfl,o1,o2,o3⟩:=h
 exact ⟨iv,ov,rfl,o1.lower hb,o2.lower hb,o3⟩
theorem txO.ext {B:Nat} {M:List Nat} {w w':World} {ds:List Value} {t:Tx} (h:txO B M w ds t) (c:Ext w w'):txO B M w' ds t:=by
 obtain ⟨iv,ov,rfl,o1,o2,o3⟩:=h
 exact ⟨iv,ov,rfl,o1.ext c,o2.ext c,o3⟩
theorem txO.one {B:Nat} {M:List Nat} {w:World} {ds:List Value} {t:Tx} (h:txO B M w ds t):ds.all (fun v=>v.oneCell')=true:=by
 obtain ⟨iv,ov,rfl,o1,o2,o3⟩:=h
 have e1:=o1.one
 have e2:=o2.one
 simp [aK,e1,e2];exact ⟨rfl,rfl⟩
end
end Go.Proofs.YtfebcajheojodaaGreatDoor
namespace Go.K
section
open Go
inductive Path (l:List Ent):Nat→Nat→Prop
 |one {i j:Nat}:i<l.length→j<l.length→gY l i j=true→Path l i j
 |snoc {i k j:Nat}:Path l i k→k<l.length→j<l.length→gY l k j=true→Path l i j
variable {l:List Ent}
theorem Path.lt {i j:Nat} (h:Path l i j):i<l.length:=by
 induction h with
 |one h _ _=>exact h
 |snoc _ _ _ _ ih=>exact ih
theorem Path.cons {i k j:Nat} (hi:i<l.length) (h:gY l i k=true) (hp:Path l k j):Path l i j:=by
 induction hp with
 |one h1 h2 h3=>exact (Path.one hi h1 h).snoc h1 h2 h3
 |snoc _ h2 h3 h4 ih=>exact ih.snoc h2 h3 h4
theorem Path.trans {i k j:Nat} (h1:Path l i k) (h2:Path l k j):Path l i j:=by
 induction h2 with
 |one g1 g2 g3=>exact h1.snoc g1 g2 g3
 |snoc _ g2 g3 g4 ih=>exact ih.snoc g2 g3 g4
def aAc (l:List Ent) (id:ByteArray) (j:Nat):Bool:=bD (fun i=>decide ((i:Int)=bH l id)) (fun k i=>gY l i k) l.length l.length j
theorem bIr {j:Nat} (hn:(l.map (·.id)).Nodup) (hj:j<l.length):bH l l[j].id=j:=by
 unfold bH
 exact idxOf_hit hj (dTr rfl) (fun i hi=>dFa fun e=>by
  have:=kJ hn (show i<l.length by omega) hj (by rw [bJ (by omega),bJ hj];exact e)
  omega)
theorem aG4 {i j:Nat} (hn:(l.map (·.id)).Nodup) (hi:i<l.length) (hj:j<l.length):aAc l l[j].id i=true↔i=j∨Path l i j:=by
 have hf:=bIr hn hj
 constructor
 ·intro h
  refine aCe (p:=fun i=>i=j∨Path l i j) (fun k hk h=>.inl ?_) (fun k m hk hm h1 h2=>.inr ?_) _ _ hi h
  ·have:=of_decide_eq_true h;rw [hf] at this;omega
  ·rcases h1 with rfl|h1
   ·exact .one hm hk h2
   ·exact Path.cons hm h2 h1
 ·have h0:aAc l l[j].id j=true:=tK hj (dTr hf.symm)
  rintro (rfl|h)
  ·exact h0
  ·have:∀{a m:Nat},Path l a m→aAc l l[j].id m=true→aAc l l[j].id a=true:=fun {a m} hp=>by
    induction hp with
    |one g1 g2 g3=>exact fun h=>lA (k:=_) g1 g2 h g3
    |snoc h1 g2 g3 g4 ih=>exact fun h=>ih (lA (k:=_) g2 g3 h g4)
   exact this h h0
theorem jD:∀{l:List Ent} {m:List Bool} {s:ByteArray},s∈aM l m↔∃i,∃h:i<l.length,m[i]? =some true∧l[i].id=s
 | [],m,s=>by
  have:aM [] m= []:=by cases m<;>rfl
  rw [this];simp
 |x::l, [],s=>by
  have:aM (x::l) []= []:=rfl
  rw [this];simp
 |x::l,b::m,s=>by
  have e:aM (x::l) (b::m)=if b then x.id::aM l m else aM l m:=rfl
  rw [e]
  constructor
  ·intro h
   by_cases hb:b=true
   ·rw [if_pos hb] at h
    rcases List.mem_cons.1 h with h|h
    ·exact ⟨0,by simp,by simp [hb],by simp [h]⟩
    ·obtain ⟨i,hi,h1,h2⟩:=jD.1 h
     exact ⟨i+1,by simp;omega,by simpa using h1,by simpa using h2⟩
   ·rw [if_neg hb] at h
    obtain ⟨i,hi,h1,h2⟩:=jD.1 h
    exact ⟨i+1,by simp;omega,by simpa using h1,by simpa using h2⟩
  ·rintro ⟨i,hi,h1,h2⟩
   cases i with
   |zero=>
    simp at h1 h2
    rw [if_pos h1,h2];simp
   |succ i=>
    have h3:s∈aM l m:=jD.2 ⟨i,by simpa using hi,by simpa using h1,by simpa using h2⟩
    split
    ·exact List.mem_cons_of_mem _ h3
    ·exact h3
theorem aR9 {p:Nat→Bool} {j:Nat} (hn:(l.map (·.id)).Nodup) (hj:j<l.length):l[j].id∈aM l ((List.range l.length).map p)↔p j=true:=by
 rw [jD]
 constructor
 ·rintro ⟨i,hi,h1,h2⟩
  have:=kJ hn hi hj (by rw [bJ hi,bJ hj];exact h2)
  subst this
  simpa [hi] using h1
 ·intro h
  exact ⟨j,hj,by simp [hj,h],rfl⟩
def inS (ids:List ByteArray) (s:ByteArray):Bool:=ids.any fun x=>decide (s=x)
theorem aUp {ids:List ByteArray} {s:ByteArray}:inS ids s=true↔s∈ids:=by
 unfold inS
 rw [List.any_eq_true]
 exact ⟨fun ⟨y,h1,h2⟩=>by rw [of_decide_eq_true h2];exact h1,fun h=>⟨s,h,dTr rfl⟩⟩
theorem bGn {i:Nat} (hn:(l.map (·.id)).Nodup) (hi:i<l.length):inS (aM l (bA l l[i].id)) l[i].id=true:=by
 have h2:l[i].id∈aM l (bA l l[i].id)↔aAc l l[i].id i=true:=aR9 hn hi
 rw [aUp,h2,aG4 hn hi hi]
 exact .inl rfl
end
section
open Go
abbrev qP (l:List Ent) (id:ByteArray):Ent:=(l.find? fun x=>decide (x.id=id)).getD default
def inB (l:List ByteArray) (x:ByteArray):Bool:=l.any fun y=>decide (y=x)
theorem aNg {l:List ByteArray} {x:ByteArray}:inB l x=true↔x∈l:=by
 unfold inB
 rw [List.any_eq_true]
 exact ⟨fun ⟨y,h1,h2⟩=>by rw [←of_decide_eq_true h2];exact h1,fun h=>⟨x,h,dTr rfl⟩⟩
def aBz:List ByteArray→List ByteArray
 | []=> []
 |x::l=>x::(aBz l).filter fun y=>decide (y≠x)
def iC (l:List Ent) (ids:List ByteArray):Int:=((aBz ids).map fun s=>(qP l s).fee).sum
def dT (l:List Ent) (ids:List ByteArray):Int:=((aBz ids).map fun s=>(qP l s).size).sum
theorem aS9 (xs:List ByteArray) (x:ByteArray):aBz (xs++ [x])=if inB xs x then aBz xs else aBz xs++ [x]:=by
 induction xs with
 |nil=>rfl
 |cons a xs ih=>
  rw [List.cons_append,aBz,ih]
  have e:inB (a::xs) x=(decide (a=x)||inB xs x):=rfl
  by_cases h:inB xs x=true
  ·rw [if_pos h,e,h,Bool.or_true,if_pos rfl,aBz]
  ·rw [if_neg h,e]
   simp only [Bool.not_eq_true] at h
   rw [h,Bool.or_false,List.filter_append]
   by_cases h2:a=x
   ·subst h2;simp [aBz]
   ·have h3:x≠a:=fun e=>h2 e.symm
    simp [aBz,h2,h3]
theorem aYu (ids:List ByteArray):(aBz ids).length≤ids.length:=by
 induction ids with
 |nil=>exact Nat.le_refl _
 |cons x l ih=>
  rw [aBz,List.length_cons,List.length_cons]
  have:=List.length_filter_le (fun y=>decide (y≠x)) (aBz l)
  omega
theorem bFu {l:List Ent} {ids:List ByteArray} {i:Nat} (h:i<ids.length):iC l (ids.take (i+1))=if inB (ids.take i) ids[i] then iC l (ids.take i) else iC l (ids.take i)+(qP l ids[i]).fee:=by
 unfold iC
 rw [List.take_succ_eq_append_getElem h,aS9]
 by_cases h2:inB (ids.take i) ids[i]=true
 ·rw [if_pos h2,if_pos h2]
 ·rw [if_neg h2,if_neg h2];simp
theorem bB1 {l:List Ent} {ids:List ByteArray} {i:Nat} (h:i<ids.length):dT l (ids.take (i+1))=if inB (ids.take i) ids[i] then dT l (ids.take i) else dT l (ids.take i)+(qP l ids[i]).size:=by
 unfold dT
 rw [List.take_succ_eq_append_getElem h,aS9]
 by_cases h2:inB (ids.take i) ids[i]=true
 ·rw [if_pos h2,if_pos h2]
 ·rw [if_neg h2,if_neg h2];simp
theorem bC9 {l:List Ent} (hl:∀x∈l,bX x.fee=true∧0≤x.size∧x.size≤100000000000) (s:ByteArray):(0≤(qP l s).fee∧(qP l s).fee≤2100000000000000)∧0≤(qP l s).size∧(qP l s).size≤100000000000:=by
 unfold qP
 cases h:l.find? fun x=>decide (x.id=s) with
 |none=>exact ⟨⟨Int.le_refl _,by show (0:Int)≤_;omega⟩,Int.le_refl _,by show (0:Int)≤_;omega⟩
 |some y=>
  have hy:=hl y (List.mem_of_find?_eq_some h)
  exact ⟨(bG _).1 hy.1,hy.2⟩
theorem aK4 {α:Type} {f:α→Int} {c:Nat} (hf:∀x,0≤f x∧f x≤c):∀l:List α,0≤(l.map f).sum∧(l.map f).sum≤c*l.length
 | []=>by simp
 |x::l=>by
  have h1:=aK4 hf l
  have h2:=hf x
  rw [List.map_cons,List.sum_cons,List.length_cons,Int.natCast_add,Int.mul_add]
  omega
theorem aF4 {l:List Ent} (hl:∀x∈l,bX x.fee=true∧0≤x.size∧x.size≤100000000000) {ids:List ByteArray} (hn:ids.length≤4000):(0≤iC l ids∧iC l ids≤8400000000000000000)∧0≤dT l ids∧dT l ids≤400000000000000:=by
 have h1:=aK4 (c:=2100000000000000) (fun s=>(bC9 hl s).1) (aBz ids)
 have h2:=aK4 (c:=100000000000) (fun s=>(bC9 hl s).2) (aBz ids)
 have h3:=aYu ids
 unfold iC dT
 omega
theorem aQx {ids:List ByteArray} (h:ids.Nodup):aBz ids=ids:=by
 induction ids with
 |nil=>rfl
 |cons x l ih=>
  rw [List.nodup_cons] at h
  rw [aBz,ih h.2,List.filter_eq_self.2 fun y hy=>dTr (show y≠x from fun e=>h.1 (by rw [←e];exact hy))]
theorem jJ:∀(l:List Ent) (m:List Bool),(aM l m).Sublist (l.map (·.id))
 | [],m=>by cases m<;>exact List.Sublist.slnil
 |x::l, []=>by show ([]:List ByteArray).Sublist _;exact List.nil_sublist _
 |x::l,b::m=>by
  rw [aM,List.map_cons]
  cases b
  ·exact (jJ l m).cons _
  ·exact (jJ l m).cons_cons _
theorem bDy {x:Ent} {l:List Ent} (h:x.id∉l.map (·.id)) {s:ByteArray} (hs:s∈l.map (·.id)):qP (x::l) s=qP l s:=by
 unfold qP
 rw [List.find?_cons_of_neg (by
  have:x.id≠s:=fun e=>h (by rw [e];exact hs)
  simpa using this)]
theorem aKx:∀{l:List Ent} (_:(l.map (·.id)).Nodup) (m:List Bool),((aM l m).map fun s=>(qP l s).fee).sum=dN l m∧((aM l m).map fun s=>(qP l s).size).sum=jW l m
 | [],_,m=>by cases m<;>exact ⟨rfl,rfl⟩
 |x::l,_, []=>⟨rfl,rfl⟩
 |x::l,h,b::m=>by
  rw [List.map_cons,List.nodup_cons] at h
  have ih:=aKx h.2 m
  have h0:qP (x::l) x.id=x:=by unfold qP;rw [List.find?_cons_of_pos (by simp)];rfl
  have h1:∀s∈aM l m,qP (x::l) s=qP l s:=fun s hs=>bDy h.1 ((jJ l m).subset hs)
  have e1:((aM l m).map fun s=>(qP (x::l) s).fee)=(aM l m).map fun s=>(qP l s).fee:=List.map_congr_left fun s hs=>by rw [h1 s hs]
  have e2:((aM l m).map fun s=>(qP (x::l) s).size)=(aM l m).map fun s=>(qP l s).size:=List.map_congr_left fun s hs=>by rw [h1 s hs]
  cases b
  ·simp only [aM,dN,jW,Bool.false_eq_true,if_false]
   constructor
   ·rw [←ih.1,←e1];simp
   ·rw [←ih.2,←e2];simp
  ·simp only [aM,dN,jW,if_true]
   simp only [List.singleton_append,List.map_cons,List.sum_cons,h0,e1,e2,ih.1,ih.2]
   exact ⟨trivial,trivial⟩
end
end Go.K
