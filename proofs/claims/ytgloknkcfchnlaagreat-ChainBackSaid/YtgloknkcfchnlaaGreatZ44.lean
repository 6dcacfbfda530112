/- Contracts: the document's taking of a coin. Plain: what the  -/
import Derived.Test.YtgloknkcfchnlaaGreatZ35
import Derived.Test.YtgloknkcfchnlaaGreatZ40
import Derived.Test.YtgloknkcfchnlaaGreatZ41
set_option linter.unusedVariables false
set_option linter.unusedSimpArgs false
namespace Go.Proofs.YtgloknkcfchnlaaGreat
section
open Go Go.K
attribute [local irreducible] aF aP bG KOp.wp K.Spec
theorem aVo {v:Value} {l:List En} (p:Pt) (w:World) (hs:SlE bM w v l) (hn:l.length≤100000):K.Spec Tryz.prog F.kedgeref10_Take [v,p.val] w fun v' w'=>
  ∃vl,v'=.tuple #[vl,(eV l p).val,.int .i64 (cW l p)]∧SlE bM w' vl (cP l p)∧tU v vl l (cP l p) w.heap.size∧Ext w w':=by
 refine aJs rfl ?_
 unfold wO
 refine oy ?_
 repeat (first|refine go ?_|refine zg λ_ _=>?_|refine zi λ_ _=>?_)
 refine qN rfl rfl (fun b1 w1 x1 a1 r1 hb1=>?_)
 repeat (first|refine go ?_|refine zg λ_ _=>?_|refine zi λ_ _=>?_)
 refine aBb (fun b2 w2 x2 a2 hb2=>?_)
 repeat (first|refine go ?_|refine zg λ_ _=>?_|refine zi λ_ _=>?_)
 refine iB rfl (pM p _ ((hs.ext x1).ext x2) hn) ?_
 rintro _ w3 ⟨rfl,x3⟩
 repeat (first|refine go ?_|refine zg λ_ _=>?_|refine zi λ_ _=>?_)
 have hx:=fun (_:Unit)=>(x1.trans x2).trans x3
 have s1:=x1.size
 have s2:=x2.size
 cases hi:eD l p with
 |none=>
  have hf:fC l p= -1:=by rw [fC,hi]
  rw [hf]
  refine bK7 rfl ?_
  repeat (first|refine go ?_|refine zg λ_ _=>?_|refine zi λ_ _=>?_)
  refine aU (hx ()) (nTr s1 hb2) (a2.ext x3) rfl rfl rfl rfl rfl (fun w5 x5 c5 a5 r5=>?_)
  repeat (first|refine go ?_|refine zg λ_ _=>?_|refine zi λ_ _=>?_)
  refine aA (aYv bJ (bD r5 rfl rfl) bJ) ⟨v,?_,?_,.inl ⟨rfl,by rw [cP,hi]⟩,x5⟩
  ·rw [eV,cW,hi];rfl
  ·rw [cP,hi];exact hs.ext x5
 |some n=>
  obtain ⟨hnl,hnp,_⟩:=aE7.1 hi
  have hf:fC l p=(n:Int):=by rw [fC,hi]
  rw [hf]
  have hneg:¬(n:Int)<0:=by omega
  refine tI (p:=(n:Int)<0) rfl (fun h=>absurd h hneg) (fun _=>?_)
  repeat (first|refine go ?_|refine zg λ_ _=>?_|refine zi λ_ _=>?_)
  have hs3:=hs.ext (hx ())
  refine aI (fun (s:Nat × Value) w'=>Ext w3 w'∧s.1≤l.length∧Own bM T.kedgeref10_Entry w3.heap.size w' s.2 ((l.take s.1).eraseIdx n))
   (fun s=> [(0,v),(5,.pointer (some ⟨b2,0,none⟩)),(7,.int .i64 n),(8,s.2),(9,.int .i64 s.1)]) (fun s=>l.length - s.1) (0,.slice none 0 0) ⟨rfl,rfl,rfl,rfl,rfl,trivial⟩ ⟨Ext.refl _,by simp,by simpa using Own.nil _ _ _⟩ ?_
  rintro ⟨i,vo⟩ ρ w4 ⟨x4,hil,ho⟩
  simp only at hil ho
  repeat (first|refine go ?_|refine zg λ_ _=>?_|refine zi λ_ _=>?_)
  refine aY rfl (hs3.ext x4) ?_
  repeat (first|refine go ?_|refine zg λ_ _=>?_|refine zi λ_ _=>?_)
  refine tI rfl (fun h=>?_) (fun h=>?_)
  ·repeat (first|refine go ?_|refine zg λ_ _=>?_|refine zi λ_ _=>?_)
   have hil':i<l.length:=by omega
   refine aO3 rfl (fun h2=>?_) (fun h2=>?_)
   ·repeat (first|refine go ?_|refine zg λ_ _=>?_|refine zi λ_ _=>?_)
    refine aS rfl rfl (hs3.ext x4) rfl hil' (fun ad r4=>?_)
    repeat (first|refine go ?_|refine zg λ_ _=>?_|refine zi λ_ _=>?_)
    refine gP rfl (fun b5 w5 x5 a5 hb5=>?_)
    repeat (first|refine go ?_|refine zg λ_ _=>?_|refine zi λ_ _=>?_)
    have hlen:((l.take i).eraseIdx n).length≤100000:=by
     have:=List.length_eraseIdx_le (l.take i) n
     simp at this;omega
    refine cA (E:=bM) (v:=vo) (l2:= [l[i]]) rfl (ho.ext x5) (nTr x4.size x5.size) rfl rfl (dX a5 rfl) rfl rfl (by simp;omega) (fun vo' w6 ho' c6=>?_)
    repeat (first|refine go ?_|refine zg λ_ _=>?_|refine zi λ_ _=>?_)
    refine ⟨(i+1,vo'),⟨rfl,rfl,rfl,rfl,rfl,trivial⟩,⟨((x4.trans x5).chg c6).mono (fun b hb=>.inr (ho.base b (by simpa using hb))),by simp;omega,?_⟩,by simp;omega⟩
    have e:=aG2 (n:=n) hil'
    rw [if_neg (by omega)] at e
    show Own _ _ _ _ _ ((l.take (i+1)).eraseIdx n)
    rw [e];exact ho'
   ·repeat (first|refine go ?_|refine zg λ_ _=>?_|refine zi λ_ _=>?_)
    refine ⟨(i+1,vo),⟨rfl,rfl,rfl,rfl,rfl,trivial⟩,⟨x4,by simp;omega,?_⟩,by simp;omega⟩
    have e:=aG2 (n:=n) hil'
    rw [if_pos (by omega)] at e
    show Own _ _ _ _ _ ((l.take (i+1)).eraseIdx n)
    rw [e];exact ho
  ·repeat (first|refine go ?_|refine zg λ_ _=>?_|refine zi λ_ _=>?_)
   rename_i w5 x5
   refine aS rfl rfl ((hs3.ext x4).ext x5) rfl hnl (fun ad r4=>?_)
   repeat (first|refine go ?_|refine zg λ_ _=>?_|refine zi λ_ _=>?_)
   have hy:=fun (_:Unit)=>((hx ()).trans x4).trans x5
   refine aU (hy ()) (nTr s1 hb2) (((a2.ext x3).ext x4).ext x5) rfl rfl rfl rfl rfl (fun w6 x6 c6 a6 r6=>?_)
   repeat (first|refine go ?_|refine zg λ_ _=>?_|refine zi λ_ _=>?_)
   have hb3:=a2.lt
   have s3:=x3.size
   refine aA (aYv bJ (bD r6 rfl rfl) bJ) ⟨vo,?_,?_,.inr fun b hb=>?_,x6⟩
   ·rw [aJo hi hnl,aLi hi];rfl
   ·rw [cP,hi]
    have e:(l.take i).eraseIdx n=l.eraseIdx n:=by rw [tLe (by omega)]
    rw [e] at ho
    refine ((ho.ext x5).chg c6 (fun b hb=>?_)).sl
    have:=ho.base b hb
    simp;omega
   ·have:=ho.base b hb;have:=(hx ()).size;omega
end
end Go.Proofs.YtgloknkcfchnlaaGreat
namespace Go.K
section
open Go Go.Proofs.YtgloknkcfchnlaaGreat
def aRi (l:List En) (t:Tx) (h:Int):Int:=if aQ t then fG (values t) else -(dZ (aL l) t h).1
def aGk (h:Int):Nat→List Tx→Int→List En→Int
 |_, [],s,_=>s
 |i,t::ts,s,l=>aGk h (i+1) ts (s+aRi l t h) (fB l t i h).1
theorem aZy {l0:List En} {h:Int}:∀(txs:List Tx) (i:Nat) {m:List En} (s:Int),CG m→(nR l0 h i txs m).2.1=0→aGk h i txs s m=s+tot (nR l0 h i txs m).1 - tot m
 | [],i,m,s,_,_=>by simp only [aGk,nR];omega
 |t::ts,i,m,s,hm,h0=>by
  unfold nR at h0 ⊢
  split at h0
  ·rename_i hc;exact absurd h0 hc
  ·rename_i hc
   rw [if_neg hc]
   have hc:(fB m t i h).2.1=0:=by simpa using hc
   have:=aZy ts (i+1) (s+aRi m t h) (sC hm t i h) h0
   unfold aGk
   rw [this,bPl hm hc]
   unfold aRi
   split<;>omega
def aEh (h:Int) (txs:List Tx) (s0:Int) (l0:List En) (k:Nat) (s:Int) (l:List En):Prop:=aGk h 0 txs s0 l0=aGk h k (txs.drop k) s l
theorem bA4 {h:Int} {txs:List Tx} {s0:Int} {l0:List En}:aEh h txs s0 l0 0 s0 l0:=rfl
theorem bAm {h:Int} {txs:List Tx} {s0 s:Int} {l0 l:List En} {k:Nat} (hk:k<txs.length) (ho:aEh h txs s0 l0 k s l):aEh h txs s0 l0 (k+1) (s+aRi l txs[k] h) (fB l txs[k] k h).1:=by
 unfold aEh at ho ⊢
 rw [ho,List.drop_eq_getElem_cons hk,aGk]
theorem bDh {h:Int} {txs:List Tx} {s0 s:Int} {l0 l:List En} {k:Nat} (hk:txs.length≤k) (ho:aEh h txs s0 l0 k s l):aGk h 0 txs s0 l0=s:=by
 unfold aEh at ho
 rw [ho,List.drop_eq_nil_of_le hk];rfl
theorem bIu {ch:Ch} {txs:List Tx} (hl:ch.bs.length<1000000) (h0:(kM ch txs).1=0):aGk ((ch.bs.length+1:Nat):Int) 0 txs (tot (aZ ch.bs)) (aZ ch.bs)=tot (aZ (cS ch txs).bs):=by
 have e:cS ch txs=⟨ch.bs++ [txs],max ch.top (ch.bs.length+1)⟩:=by
  unfold cS
  rw [if_neg (by rw [h0];decide)]
 rw [e]
 simp only
 rw [aEs]
 unfold kM at h0
 have e2:bI (aZ ch.bs) txs ((ch.bs.length+1:Nat):Int)=nR (aZ ch.bs) ((ch.bs.length+1:Nat):Int) 0 txs (aZ ch.bs):=by
  unfold bI
  rw [if_neg (by omega)]
 rw [e2] at h0 ⊢
 rw [aZy txs 0 (m:=aZ ch.bs) _ (gA _ _) h0]
 omega
theorem aKs (l:List Int):0≤fG l∧fG l≤2100000000000000:=by
 unfold fG
 cases h:kC 0 l with
 |none=>simp
 |some t=>exact (bN _).1 (vH l 0 t (by decide) h)
theorem aZg (f:Pt→Option Cn) (t:Tx) (h:Int):0≤(dZ f t h).1∧(dZ f t h).1≤2100000000000000:=by
 have h1:=aKs (values t)
 have h2:=aKs (t.ins.map (inV f))
 unfold dZ
 split
 ·simp
 ·split
  ·simp
  ·split
   ·simp
   ·split
    ·simp
    ·split
     ·simp
     ·simp only;omega
theorem bLj (l:List En) (t:Tx) (h:Int): -2100000000000000≤aRi l t h∧aRi l t h≤2100000000000000:=by
 have h1:=aKs (values t)
 have h2:=aZg (aL l) t h
 unfold aRi
 split<;>omega
def fR (bs:List (List Tx)):List Int:=(List.range (bs.length+1)).map fun k=>tot (cM bs k)
theorem aFa (bs:List (List Tx)):(fR bs).length=bs.length+1:=by simp [fR]
theorem bDk (bs:List (List Tx)) (x:List Tx):fR (bs++ [x])=fR bs++ [tot (aZ (bs++ [x]))]:=by
 unfold fR
 rw [List.length_append,List.length_singleton,List.range_succ,List.map_append]
 congr 1
 ·refine List.map_congr_left fun k hk=>?_
  have hk:=List.mem_range.1 hk
  rw [kZ _ _ k (by omega)]
 ·simp [aZ]
theorem bC7 {bs:List (List Tx)} {n:Nat} (h:n≤bs.length):fR (bs.take n)=(fR bs).take (n+1):=by
 unfold fR
 rw [←List.map_take,List.take_range,List.length_take,Nat.min_eq_left h,Nat.min_eq_left (by omega)]
 refine List.map_congr_left fun k hk=>?_
 have hk:=List.mem_range.1 hk
 rw [sR _ k _ (by omega) h]
theorem aPd (bs:List (List Tx)):(fR bs)[bs.length]'(by rw [aFa];omega)=tot (aZ bs):=by
 unfold fR
 rw [List.getElem_map,List.getElem_range];rfl
theorem bHc {bs:List (List Tx)} {j n:Nat} (hj:j<bs.length) (h6:j<6) (hn:n=bs.length):fN ⟨bs.take (n - j),n⟩=0∧eW ⟨bs.take (n - j),n⟩=⟨bs.take (n - (j+1)),n⟩:=by
 have hl:(bs.take (n - j)).length=n - j:=by rw [List.length_take];omega
 have e0:fN ⟨bs.take (n - j),n⟩=0:=by
  unfold fN
  simp only [hl]
  rw [if_neg (by omega),if_neg (by omega)]
 refine ⟨e0,?_⟩
 unfold eW
 rw [if_neg (by simp [e0])]
 simp only [hl,List.take_take]
 congr 2;omega
theorem bEr {bs:List (List Tx)} {T k:Nat} (h:aYt ⟨bs,T⟩) (hk:k<bs.length):(kM ⟨bs.take k,T⟩ (bs.getD k [])).1=0∧cS ⟨bs.take k,T⟩ (bs.getD k [])=⟨bs.take (k+1),T⟩:=by
 have hl:(bs.take k).length=k:=by rw [List.length_take];omega
 have e0:(kM ⟨bs.take k,T⟩ (bs.getD k [])).1=0:=by
  unfold kM
  simp only [hl]
  rw [aMr (by omega)]
  exact h.1 k hk
 refine ⟨e0,?_⟩
 have hT:=h.2
 simp only at hT
 unfold cS
 rw [if_neg (by rw [e0];decide)]
 simp only [hl]
 have e:bs.take (k+1)=bs.take k++ [bs.getD k []]:=by
  rw [List.take_succ_eq_append_getElem hk,List.getD_eq_getElem?_getD,List.getElem?_eq_getElem hk];rfl
 rw [e]
 congr 1;omega
end
section
open Go
section
variable {α:Type} {E:Enc α} {t:TypeId} {B:Nat} {w:World}
theorem Own.form' {v:Value} {l:List α} (h:Own E t B w v l):(v=.slice none 0 0∧l= [])∨∃b cap,v=.slice (some ⟨b,0,none⟩) l.length cap∧l.length≤cap:=by
 rcases h with ⟨rfl,rfl⟩|⟨b,cap,junk,rfl,hB,hat,hln⟩
 ·exact .inl ⟨rfl,rfl⟩
 ·refine .inr ⟨b,cap,rfl,?_⟩
  rw [List.length_append,Enc.flat_length] at hln
  have h3:l.length*E.k≤cap*E.k:=by omega
  exact Nat.le_of_mul_le_mul_right h3 E.pos
theorem aN5 (l:List α) (n:Nat):E.flat l=E.flat (l.take n)++E.flat (l.drop n):=by
 conv=>lhs;rw [←List.take_append_drop n l]
 unfold Enc.flat
 rw [List.flatMap_append]
theorem Own.cut {b:Nat} {len cap n:Nat} {l:List α} (h:Own E t B w (.slice (some ⟨b,0,none⟩) len cap) l) (hn:n≤l.length):Own E t B w (.slice (some ⟨b,0,none⟩) n cap) (l.take n):=by
 rcases h with ⟨e, -⟩|⟨b',cap',junk,e,hB,hat,hln⟩
 ·cases e
 ·simp only [Value.slice.injEq,Option.some.injEq,Addr.mk.injEq,and_true] at e
  obtain ⟨rfl, -,rfl⟩:=e
  refine .inr ⟨b,cap,E.flat (l.drop n)++junk,?_,hB,?_,?_⟩
  ·rw [List.length_take,Nat.min_eq_left hn]
  ·rw [←List.append_assoc,←aN5];exact hat
  ·rw [←List.append_assoc,←aN5];exact hln
end
end
end Go.K
