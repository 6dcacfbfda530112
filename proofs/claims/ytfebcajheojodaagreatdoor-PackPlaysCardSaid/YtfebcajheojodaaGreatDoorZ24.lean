/- Contracts: the least fee, and the rules, by the program. Con -/
import Derived.Test.YtfebcajheojodaaGreatDoorZ23
set_option linter.unusedVariables false
set_option linter.unusedSimpArgs false
namespace Go.Proofs.YtfebcajheojodaaGreatDoor
section
open Go Go.K
section
variable {P:Program} {d:Option Tmp} {r:KR} {K:Env→World→Prop} {ρ:Env} {w:World}
theorem bLv {x y:Operand} {n m:Nat} (hx:ev ρ x=.int .u64 (n:Nat)) (hy:ev ρ y=.int .u64 (m:Nat)) (h0:0<m) (hn:n<18446744073709551616) (k:aO P r K (put ρ d (.int .u64 ((n / m:Nat):Int))) w):aO P (.cons ⟨d,.bin .quo x y,none⟩ r) K ρ w:=
 dK rfl (by
  have e:∀m:Int,IntKind.u64.wrap m=m%18446744073709551616:=fun _=>rfl
  have h1:(n:Int).tdiv (m:Int)=((n / m:Nat):Int):=by rw [Int.tdiv_eq_ediv_of_nonneg (by omega)];rfl
  have h2:=Nat.div_le_self n m
  have h3:∀q:Nat,q≤n→((q:Nat):Int)%18446744073709551616=((q:Nat):Int):=fun q hq=>Int.emod_eq_of_lt (by omega) (by omega)
  have h4:¬(m:Int)=0:=by omega
  simp only [KOp.fix,hx,hy,cC,dX,Bool.false_eq_true,if_false,if_true,dL,h4,h1,e,h3 _ h2]) k
theorem bLz {x y:Operand} {n m:Nat} (hx:ev ρ x=.int .u64 (n:Nat)) (hy:ev ρ y=.int .u64 (m:Nat)) (h0:0<m) (k:aO P r K (put ρ d (.int .u64 ((n%m:Nat):Int))) w):aO P (.cons ⟨d,.bin .rem x y,none⟩ r) K ρ w:=
 dK rfl (by
  have h1:(n:Int).tmod (m:Int)=((n%m:Nat):Int):=by rw [Int.tmod_eq_emod_of_nonneg (by omega)];rfl
  have h4:¬(m:Int)=0:=by omega
  simp only [KOp.fix,hx,hy,cC,dX,Bool.false_eq_true,if_false,if_true,dL,h4,h1]) k
end
theorem aI6 {x:Ent} (h:EntOk x):dZ x.fee x.size=true:=by
 unfold dZ
 rw [h.fee,Bool.true_and,h.size]
 have:=(bI (fE h.check) h.check).sizeM
 exact dTr (by omega)
def gE (l:List Ent) (t:Tx):Int:=if aG t≠0 then aG t else if l.any (cE t)=false then 0 else if bX (fH l t)=true then 0 else 3
def fY (l:List Ent) (t:Tx):Int:=if aG t≠0 then 0 else if l.any (cE t)=false then 0 else if bX (fH l t)=true then fH l t else 0
attribute [local irreducible] aO aU bQ KOp.wp K.Spec u32 leS vnS str aV cU cD idT aR aG aX idN bD cF bT bH cA cO aZ bA aM iC dT pD lH bC evL inS inB iG fH dN
theorem bB4 (lo y:Nat) (hy0:0<y) (hlo:lo<18446744073709551616) (w:World):K.Spec Tryz.prog F.math_bits_Div64 [.int .u64 0,.int .u64 (lo:Nat),.int .u64 (y:Nat)] w fun r w'=>r=.tuple #[.int .u64 ((lo / y:Nat):Int),.int .u64 ((lo%y:Nat):Int)]∧Ext w w':=by
 refine aHt rfl ?_
 unfold vU
 refine oy ?_
 repeat' (first|refine bLv (d:=some 30) (n:=lo) (m:=y) rfl rfl hy0 hlo ?_|refine bLz (d:=some 33) (n:=lo) (m:=y) rfl rfl hy0 ?_|refine zL (p:=((y:Nat):Int)=0) rfl (fun h=>absurd h (by omega)) (fun _=>?_)|refine zL (p:=((y:Nat):Int)≤0) rfl (fun h=>absurd h (by omega)) (fun _=>?_)|refine go1 ?_|refine zg λ_ _=>?_|refine zi λ_ _=>?_|refine fR ?_ ?_)
 all_goals exact aC rfl ⟨rfl,by exact fx⟩
theorem aUo (S F' I':Nat) (hS:S≤1000000) (hF:F'≤1000000000000) (hI:0<I'∧I'≤1000000) (w:World):K.Spec Tryz.prog F.replace_above [.int .i64 (S:Nat),.int .i64 (F':Nat),.int .i64 (I':Nat)] w fun r w'=>r=.int .i64 ((F':Int)*(S:Int) / (I':Int)+1)∧Ext w w':=by
 have hp:F'*S≤1000000000000*1000000:=Nat.mul_le_mul hF hS
 have h1:F'*S / 18446744073709551616=0:=by omega
 have h2:F'*S%18446744073709551616=F'*S:=by omega
 have h3:=Nat.div_le_self (F'*S) I'
 have e:(F':Int)*(S:Int) / (I':Int)=((F'*S / I':Nat):Int):=by rw [Int.natCast_ediv,Int.natCast_mul]
 rw [e]
 obtain ⟨q,hq⟩:∃q,q=F'*S / I':=⟨_,rfl⟩
 obtain ⟨p,hpq⟩:∃p,p=F'*S:=⟨_,rfl⟩
 rw [←hq] at h3 ⊢
 rw [←hpq] at h1 h2 h3 hp
 refine aM0 rfl ?_
 unfold aA9
 refine oy ?_
 repeat' (first|refine aJ (d:=some 13) (.int .u64 (F':Nat)) rfl (congrArg (fun n=>some (Value.int .u64 n)) (bG2 (by omega))) ?_|refine aJ (d:=some 15) (.int .u64 (S:Nat)) rfl (congrArg (fun n=>some (Value.int .u64 n)) (bG2 (by omega))) ?_|refine aJ (d:=some 23) (.int .u64 (I':Nat)) rfl (congrArg (fun n=>some (Value.int .u64 n)) (bG2 (by omega))) ?_|refine aJ (d:=some 28) (.int .i64 (q:Nat)) rfl (congrArg (fun n=>some (Value.int .i64 n)) (IntWalk.i64_in _ (by omega))) ?_|refine go1 ?_|refine zg λ_ _=>?_|refine zi λ_ _=>?_|(refine zC (d:=some 16) rfl (bAg F' S (by omega) (by omega) _) ?_;rintro _ w3 ⟨rfl,x3⟩;rw [←hpq,h1,h2])|(refine zC (d:=some 24) rfl (bB4 p I' hI.1 (by omega) _) ?_;rintro _ w4 ⟨rfl,x4⟩;rw [show p / I'=q by rw [hq,hpq]]))
 exact aC rfl ⟨rfl,by exact fx⟩
theorem aWr (S:Nat) (f z:Int) (hS:S≤1000000) (hp:dZ f z=true) (hf:f≤1000000000000) (w:World):K.Spec Tryz.prog F.replace_above [.int .i64 (S:Nat),.int .i64 f,.int .i64 z] w fun r w'=>r=.int .i64 (f*(S:Nat) / z+1)∧Ext w w':=by
 obtain ⟨F',I',rfl,rfl,b1,b2,b3⟩:=aBp hp
 exact aUo S F' I' hS (by omega) ⟨by omega,b3⟩ w
theorem aDt (R' S:Nat) (hR:R'≤100000000) (hS:S≤1000000) (w:World):K.Spec Tryz.prog F.amount_Fee [.int .i64 (R':Nat),.int .i64 (S:Nat)] w fun r w'=>r=.tuple #[.int .i64 (((R'*S+999) / 1000:Nat):Int),.int .i64 0]∧Ext w w':=by
 have hp:R'*S≤100000000*1000000:=Nat.mul_le_mul hR hS
 refine aUl rfl ?_
 unfold aJb
 refine oy ?_
 repeat' (first|refine zF (d:=some 7) (v:=.bool true) ((qF _ _ _).trans (by rw [dTr (by omega)])) ?_|refine aJ (d:=some 16) (.int .i64 ((R'*S:Nat):Int)) rfl (congrArg (fun n=>some (Value.int .i64 n)) (IntWalk.i64_in _ (by omega))) ?_|refine aJ (d:=some 18) (.int .i64 ((R'*S+999:Nat):Int)) rfl (congrArg (fun n=>some (Value.int .i64 n)) ((IntWalk.i64_in _ (by omega)).trans (by omega))) ?_|refine aKu (d:=some 19) (n:=R'*S+999) (m:=1000) rfl rfl (by omega) (by omega) ?_|(apply zO;focus((conv=>lhs;whnf)<;>(first|with_reducible exact rfl|(refine congrArg Value.bool ?_;decide))))|refine zF (d:=some 11) (v:=.bool true) ((qF _ _ _).trans (by rw [dTr (by omega)])) ?_|refine go1 ?_|refine zg λ_ _=>?_|refine zi λ_ _=>?_)
 exact aC rfl ⟨rfl,by exact fx⟩
set_option maxHeartbeats 2000000 in
theorem aDv {g:Nat} {M N:List Nat} {l:List Ent} {cs:List Value} {t:Tx} (w:World) (hG:GrR w g M l) (hM:∀b∈M,b<w.heap.size) (ht:txR.rel N w cs t) (hs:t.Sm) (hl:l.length≤1000) (hf:∀x∈l,x.fee≤1000000000000):
  K.Spec Tryz.prog F.replace_Need [.pointer (some ⟨g,0,none⟩),.agg cs.toArray] w fun r w'=>r=.tuple #[.int .i64 (fY l t),.int .i64 (gE l t)]∧Ext w w':=by
 have hnd:=hG.nodup
 have hE:=hG.ok
 have ht0:=ht
 obtain ⟨iv,ov,rfl,hi,ho,hv⟩:=ht
 by_cases hc:aG t=0
 ·have hz:=bI hs hc
  have hz2:=hz.sizeM
  have e0:lF t=.tuple #[.int .i64 (aR t:Nat),.int .i64 0]:=by rw [lF,if_pos hc]
  obtain ⟨ids,hids⟩:∃ids,ids=aM l (bC l t):=⟨_,rfl⟩
  have hil:ids.length≤l.length:=by rw [hids];exact kO _ _
  have hel:=kO l (evL l t)
  have hfee:iC l (aM l (evL l t))=qY l t:=by rw [bEc hnd];rfl
  have hgb:=aGz (t:=t) (c:=1000000000000) (fun x hx=>⟨((bG _).1 (hE x hx).fee).1,hf x hx⟩)
  have hgb2:((1000000000000:Nat):Int)*l.length≤1000000000000*1000:=by omega
  have hone:(1000*aR t+999) / 1000=aR t:=by omega
  have hconf:ids.length=0↔l.any (cE t)=false:=by rw [hids];exact aDp
  have hnl:fH l t=iG l (aR t:Nat) (qY l t+(aR t:Nat)) ids:=by rw [hids];unfold fH;rfl
  have n0:iG l (aR t:Nat) (qY l t+(aR t:Nat)) (ids.take 0)=qY l t+(aR t:Nat):=by rw [List.take_zero];unfold iG;rfl
  have hin:∀s∈ids,dR l s∈l:=fun s hs=>by
   rw [hids] at hs
   obtain ⟨x,hx,_,rfl⟩:=qX.1 hs
   rw [(get_mem hnd hx).2];exact hx
  refine aCd rfl ?_
  unfold uJ
  refine oy ?_
  repeat' (first|refine go1 ?_|refine zg λ_ _=>?_|refine zi λ_ _=>?_|refine zD (d:=some 3) rfl rfl (fun bt wt xt bt' (rt:Row wt ⟨bt,0,none⟩ (aK t iv ov)) hbt0=>?_)|(refine zC (d:=some 22) rfl (fW (M:=N) (cs:=aK t iv ov) (t:=t) _ (R.ext ht0 (by exact fx)) hs) ?_;rintro _ w3 ⟨rfl,x3⟩;rw [e0])|(refine zC (d:=some 30) rfl (gH (M:=M) (N:=N) (l:=l) (cs:=aK t iv ov) (t:=t) _ (hG.ext (by exact fx)) (fun b hb=>nLt (hM b hb) (Ext.size (by exact fx))) (R.ext ht0 (by exact fx)) hs.ins hl) ?_;rw [←hids];rintro vc w4 ⟨oc,x4⟩;have sc:=oc.sl)|refine bY (E:=bO) (l:=ids) rfl (SlE.ext (by exact fx) sc) ?_|refine zL rfl (fun h=>?_) (fun h=>?_)|(refine zC (d:=some 38) rfl (kM (M:=M) (N:=N) (l:=l) (cs:=aK t iv ov) (t:=t) _ (hG.ext (by exact fx)) (fun b hb=>nLt (hM b hb) (Ext.size (by exact fx))) (R.ext ht0 (by exact fx)) hs.ins hl) ?_;rintro vg w5 ⟨og,x5⟩;have sg:=og.sl)|(refine zC (d:=some 39) rfl (aTb (M:=M) (l:=l) (ids:=aM l (evL l t)) _ (hG.ext (by exact fx)) (fun b hb=>nLt (hM b hb) (Ext.size (by exact fx))) (SlE.ext (by exact fx) sg) (by omega)) ?_;rintro _ w6 ⟨rfl,x6⟩;rw [hfee])|(refine zC (d:=some 44) rfl (aDt 1000 (aR t) (by decide) hz2.2 _) ?_;rintro _ w7 ⟨rfl,x7⟩;rw [hone])|(refine aQ (fun (i:Nat) w'=>Ext w7 w'∧i≤ids.length) (fun i=> [(0,.pointer (some ⟨g,0,none⟩)),(6,.int .i64 (aR t:Nat)),(13,.int .i64 (iG l (aR t:Nat) (qY l t+(aR t:Nat)) (ids.take i))),(50,vc),(51,.int .i64 (ids.length:Nat)),(52,.int .i64 i)]) (fun i=>ids.length - i) 0 ⟨rfl,rfl,by rw [n0];rfl,rfl,rfl,rfl,trivial⟩ ⟨Ext.refl _,by simp⟩ ?_;rintro i ρ w8 ⟨x8,hi8⟩)|(have hii:i<ids.length:=(by omega);refine aT (d:=some 54) (E:=bO) rfl rfl (n:=i) (l:=ids) (SlE.ext (by exact fx) sc) rfl hii (fun ad r9=>?_);have r9:Row _ ad [Value.string ids[i]]:=r9)|(refine zC (d:=some 59) rfl (nR (M:=M) ids[i] _ (hG.ext (by exact fx)) (fun b hb=>nLt (hM b hb) (Ext.size (by exact fx)))) ?_;rintro v5 w10 ⟨ds,rfl,e5,x10⟩;have hmem:=hin _ (gMe hii);have hpr:=aI6 (hE _ hmem);have hff:=hf _ hmem;generalize hX:dR l ids[i]=X at*;obtain ⟨iv2,ov2,rfl,o1,o2,o3⟩:=e5;have i1:=o1.one;have i2:=o2.one)|refine zE (d':=16) (fun _=>rfl) rfl rfl (by simp [bN,i1,i2];exact ⟨rfl,rfl,rfl,rfl,rfl⟩) (fun b6 w11 x11 a11 (r11:Row w11 ⟨b6,0,none⟩ (bN X iv2 ov2)) hb6=>?_))
  ·have h0:l.any (cE t)=false:=hconf.1 (by omega)
   have e1:fY l t=0:=by rw [fY,if_neg (by simpa using hc),if_pos h0]
   have e2:gE l t=0:=by rw [gE,if_neg (by simpa using hc),if_pos h0]
   rw [e1,e2]
   exact aC rfl ⟨rfl,by exact fx⟩
  ·repeat' (first|refine rH (d:=some 69) rfl rfl ?_|refine go1 ?_|refine zg λ_ _=>?_|refine zi λ_ _=>?_|(refine zC (d:=some 68) rfl (aWr (aR t) X.fee X.size hz2.2 hpr hff _) ?_;rintro _ w12 ⟨rfl,x12⟩))
   refine ⟨i+1,⟨rfl,rfl,?_,rfl,rfl,rfl,trivial⟩,⟨by exact fx,by omega⟩,by omega⟩
   show _=Value.int .i64 (iG l (aR t:Nat) (qY l t+(aR t:Nat)) (ids.take (i+1)))
   rw [bGe hii,hX];rfl
  ·have ei:i=ids.length:=by omega
   subst ei
   rw [tLe (Nat.le_refl _),←hnl]
   have h1:l.any (cE t)=true:=by
    cases h9:l.any (cE t) with
    |false=>exact absurd (hconf.2 h9) (by omega)
    |true=>rfl
   cases hg9:bX (fH l t) with
   |false=>
    have e1:fY l t=0:=by rw [fY,if_neg (by simpa using hc),if_neg (by rw [h1];simp),if_neg (by rw [hg9];simp)]
    have e2:gE l t=3:=by rw [gE,if_neg (by simpa using hc),if_neg (by rw [h1];simp),if_neg (by rw [hg9];simp)]
    rw [e1,e2]
    repeat' (first|refine go1 ?_|refine zg λ_ _=>?_|refine zi λ_ _=>?_)
    exact aC rfl ⟨rfl,by exact fx⟩
   |true=>
    have e1:fY l t=fH l t:=by rw [fY,if_neg (by simpa using hc),if_neg (by rw [h1];simp),if_pos hg9]
    have e2:gE l t=0:=by rw [gE,if_neg (by simpa using hc),if_neg (by rw [h1];simp),if_pos hg9]
    rw [e1,e2]
    repeat' (first|refine go1 ?_|refine zg λ_ _=>?_|refine zi λ_ _=>?_)
    exact aC rfl ⟨rfl,by exact fx⟩
 ·have e0:lF t=.tuple #[.int .i64 0,.int .i64 (aG t)]:=by rw [lF,if_neg hc]
  have e1:fY l t=0:=by rw [fY,if_pos hc]
  have e2:gE l t=aG t:=by rw [gE,if_pos hc]
  rw [e1,e2]
  refine aCd rfl ?_
  unfold uJ
  refine oy ?_
  repeat' (first|refine go1 ?_|refine zg λ_ _=>?_|refine zi λ_ _=>?_|refine zD (d:=some 3) rfl rfl (fun bt wt xt bt' (rt:Row wt ⟨bt,0,none⟩ (aK t iv ov)) hbt0=>?_)|(refine zC (d:=some 22) rfl (fW (M:=N) (cs:=aK t iv ov) (t:=t) _ (R.ext ht0 (by exact fx)) hs) ?_;rintro _ w3 ⟨rfl,x3⟩;rw [e0])|refine zN (p:=aG t=0) rfl (fun _=>?_) (fun h=>absurd h hc))
  exact aC rfl ⟨rfl,by exact fx⟩
end
section
open Go Go.K
attribute [local irreducible] aO aU bQ KOp.wp K.Spec u32 leS vnS str aV cU cD idT aR aG aX idN bD cF bT bH cA cO aZ bA aM iC dT pD lH bC evL inS inB iG fH dN fY gE gP eQ
theorem aRt:cM Tryz.prog F.replace_Rules_1=true:=by kernel_rfl
theorem aLn {g b2:Nat} {M:List Nat} {l:List Ent} (s:ByteArray) (w:World) (hG:GrR w g M l) (hM:∀b∈M,b<w.heap.size) (hl:l.length≤1000) (hr:Row w ⟨b2,0,none⟩ [.pointer (some ⟨g,0,none⟩)]):
  K.Spec Tryz.prog F.replace_Rules_1 [.string s,.pointer (some ⟨b2,0,none⟩)] w fun r w'=>r=.bool (!gP l (dR l s))∧Ext w w':=by
 refine aHm rfl ?_
 unfold wD
 refine oy ?_
 repeat' (first|refine go1 ?_|refine zg λ_ _=>?_|refine zi λ_ _=>?_|(refine zC (d:=some 6) rfl (bFy (M:=M) (l:=l) s _ (hG.ext (by exact fx)) (fun b hb=>nLt (hM b hb) (Ext.size (by exact fx))) hl) ?_;rintro _ w5 ⟨rfl,x5⟩))
 exact aC rfl ⟨rfl,by exact fx⟩
theorem bKz {l:List Ent} {t:Tx} (h:l.any (cE t)=false):(l.any fun x=>cE t x&&!gP l x)=false:=by
 rw [List.any_eq_false] at h ⊢
 intro x hx h2
 rw [Bool.and_eq_true] at h2
 exact h x hx h2.1
set_option maxHeartbeats 4000000 in
theorem bB6 {g : Nat} {M N : List Nat} {l : List Ent} {cs : List Value} {t : Tx} (fee : Int) (w : World) (hG : GrR w g M l) (hM : ∀ b ∈ M, b < w.heap.size) (ht : txR.rel N w cs t) (hs : t.Sm) (hl : l.length ≤ 1000) (hf : ∀ x ∈ l, x.fee ≤ 1000000000000) :
    K.Spec Tryz.prog F.replace_Rules [.pointer (some ⟨g, 0, none⟩), .agg cs.toArray, .int .i64 fee] w fun r w' => r = .int .i64 (cH l t fee) ∧ Ext w w' := by
  have hnd := hG.nodup
  have hE := hG.ok
  have hlc := kO l (bC l t)
  have hle := kO l (evL l t)
  have ht0 := ht
  obtain ⟨iv, ov, rfl, hi, ho, hv⟩ := ht
  by_cases hc : aG t = 0
  · have e0 : lF t = .tuple #[.int .i64 (aR t : Nat), .int .i64 0] := by rw [lF, if_pos hc]
    have hz := (bI hs hc).sizeM
    cases hgf : bX fee with
    | false =>
      have e : cH l t fee = 3 := by rw [cH, if_neg (by simpa using hc), if_pos hgf]
      rw [e]
      obtain ⟨nN, hnN⟩ : ∃ n, fY l t = n := ⟨_, rfl⟩
      obtain ⟨nE, hnE⟩ : ∃ n, gE l t = n := ⟨_, rfl⟩
      refine jE rfl ?_
      unfold gQ
      refine oy ?_
      repeat' (first|refine jA (b := .cons ⟨some 39, _, _⟩ _) (fun (vc : Value) w' => Ext w4 w' ∧ Own bO T.string w4.heap.size w' vc (aM l (bC l t))) (fun vc => [(2, .int .i64 fee), (3, .pointer (some ⟨bg, 0, none⟩)), (4, .pointer (some ⟨bt, 0, none⟩)), (9, .int .i64 nN), (36, vc), (37, .pointer (some ⟨g, 0, none⟩)), (38, .agg (aK t iv ov).toArray)]) ?_ ?_|(rintro vc ρ7 w7 ⟨x7, oc⟩; have sc := oc.sl; try dsimp only)|(exact ⟨v6, ⟨rfl, rfl, rfl, rfl, rfl, rfl, rfl, trivial⟩, by exact fx, Own.lower (Own.ext (by exact fx) o6) (Ext.size (by exact fx))⟩)|refine zF (d := some 32) (v := .bool false) ((qG _).trans (by rw [hgf])) ?_|refine go1 ?_|refine zg λ_ _=>?_|refine zi λ_ _=>?_|refine zD (d := some 3) rfl rfl (fun bg wg xg bg' (rg : Row wg ⟨bg, 0, none⟩ [.pointer (some ⟨g, 0, none⟩)]) hbg0=>?_)|refine zD (d := some 4) rfl rfl (fun bt wt xt bt' (rt : Row wt ⟨bt, 0, none⟩ (aK t iv ov)) hbt0=>?_)|(refine zC (d := some 17) rfl (fW (M := N) (cs := aK t iv ov) (t := t) _ (R.ext ht0 (by exact fx)) hs) ?_; rintro _ w3 ⟨rfl, x3⟩; rw [e0])|(refine zC (d := some 26) rfl (aDv (M := M) (N := N) (l := l) (cs := aK t iv ov) (t := t) _ (hG.ext (by exact fx)) (fun b hb => nLt (hM b hb) (Ext.size (by exact fx))) (R.ext ht0 (by exact fx)) hs hl hf) ?_; rintro _ w4 ⟨rfl, x4⟩; rw [hnN, hnE])|refine fR ?_ ?_|(refine zC (d := some 36) rfl (gH (M := M) (N := N) (l := l) (cs := aK t iv ov) (t := t) _ (hG.ext (by exact fx)) (fun b hb => nLt (hM b hb) (Ext.size (by exact fx))) (R.ext ht0 (by exact fx)) hs.ins hl) ?_; rintro v6 w6 ⟨o6, x6⟩)|(refine zC (d := some 39) rfl (kM (M := M) (N := N) (l := l) (cs := aK t iv ov) (t := t) _ (hG.ext (by exact fx)) (fun b hb => nLt (hM b hb) (Ext.size (by exact fx))) (R.ext ht0 (by exact fx)) hs.ins hl) ?_; rintro vg w8 ⟨og, x8⟩; have sg := og.sl)|refine bY (d := some 42) (E := bO) (l := aM l (bC l t)) rfl (SlE.ext (by exact fx) sc) ?_)
      repeat' (first|refine zF (d := some 32) (v := .bool false) ((qG _).trans (by rw [hgf])) ?_|refine go1 ?_|refine zg λ_ _=>?_|refine zi λ_ _=>?_|refine zN (p := nE = 0) rfl (fun _ => ?_) (fun _ => ?_))
      all_goals exact aC rfl ⟨rfl, by exact fx⟩
    | true =>
      cases hh : l.any (cE t) with
      | false =>
        have e : cH l t fee = 0 := by rw [cH, if_neg (by simpa using hc), if_neg (by rw [hgf]; simp), if_neg (by rw [bKz hh]; simp), if_pos hh]
        rw [e]
        have hnN : fY l t = 0 := by unfold fY; rw [if_neg (by simpa using hc), if_pos hh]
        have hnE : gE l t = 0 := by unfold gE; rw [if_neg (by simpa using hc), if_pos hh]
        have hlen : (aM l (bC l t)).length = 0 := aDp.2 hh
        refine jE rfl ?_
        unfold gQ
        refine oy ?_
        repeat' (first|refine jA (b := .cons ⟨some 39, _, _⟩ _) (fun (vc : Value) w' => Ext w4 w' ∧ Own bO T.string w4.heap.size w' vc (aM l (bC l t))) (fun vc => [(2, .int .i64 fee), (3, .pointer (some ⟨bg, 0, none⟩)), (4, .pointer (some ⟨bt, 0, none⟩)), (9, .int .i64 0), (36, vc), (37, .pointer (some ⟨g, 0, none⟩)), (38, .agg (aK t iv ov).toArray)]) ?_ ?_|(rintro vc ρ7 w7 ⟨x7, oc⟩; have sc := oc.sl; try dsimp only)|(exact ⟨v6, ⟨rfl, rfl, rfl, rfl, rfl, rfl, rfl, trivial⟩, by exact fx, Own.lower (Own.ext (by exact fx) o6) (Ext.size (by exact fx))⟩)|refine zF (d := some 32) (v := .bool true) ((qG _).trans (by rw [hgf])) ?_|refine go1 ?_|refine zg λ_ _=>?_|refine zi λ_ _=>?_|refine zD (d := some 3) rfl rfl (fun bg wg xg bg' (rg : Row wg ⟨bg, 0, none⟩ [.pointer (some ⟨g, 0, none⟩)]) hbg0=>?_)|refine zD (d := some 4) rfl rfl (fun bt wt xt bt' (rt : Row wt ⟨bt, 0, none⟩ (aK t iv ov)) hbt0=>?_)|(refine zC (d := some 17) rfl (fW (M := N) (cs := aK t iv ov) (t := t) _ (R.ext ht0 (by exact fx)) hs) ?_; rintro _ w3 ⟨rfl, x3⟩; rw [e0])|(refine zC (d := some 26) rfl (aDv (M := M) (N := N) (l := l) (cs := aK t iv ov) (t := t) _ (hG.ext (by exact fx)) (fun b hb => nLt (hM b hb) (Ext.size (by exact fx))) (R.ext ht0 (by exact fx)) hs hl hf) ?_; rintro _ w4 ⟨rfl, x4⟩; rw [hnN, hnE])|refine fR ?_ ?_|(refine zC (d := some 36) rfl (gH (M := M) (N := N) (l := l) (cs := aK t iv ov) (t := t) _ (hG.ext (by exact fx)) (fun b hb => nLt (hM b hb) (Ext.size (by exact fx))) (R.ext ht0 (by exact fx)) hs.ins hl) ?_; rintro v6 w6 ⟨o6, x6⟩)|(refine zC (d := some 39) rfl (kM (M := M) (N := N) (l := l) (cs := aK t iv ov) (t := t) _ (hG.ext (by exact fx)) (fun b hb => nLt (hM b hb) (Ext.size (by exact fx))) (R.ext ht0 (by exact fx)) hs.ins hl) ?_; rintro vg w8 ⟨og, x8⟩; have sg := og.sl)|refine bY (d := some 42) (E := bO) (l := aM l (bC l t)) rfl (SlE.ext (by exact fx) sc) ?_)
        refine zL rfl (fun _ => ?_) (fun h => absurd (show (((aM l (bC l t)).length : Nat) : Int) = 0 by omega) h)
        repeat' (first|refine go1 ?_|refine zg λ_ _=>?_|refine zi λ_ _=>?_)
        exact aC rfl ⟨rfl, by exact fx⟩
      | true =>
        have hlen : (aM l (bC l t)).length ≠ 0 := fun h => by rw [aDp.1 h] at hh; cases hh
        have hpr : aZw l := fun x hx => aI6 (hE x hx)
        have hfp : dZ fee (aR t : Nat) = true := by unfold dZ; rw [hgf, Bool.true_and]; exact dTr (by omega)
        have hgb := (aGz (t := t) (c := 1000000000000) (fun x hx => ⟨((bG _).1 (hE x hx).fee).1, hf x hx⟩)).1
        have hnp := bDz (l := l) (t := t) hgb hz.1
        obtain ⟨nv, hnv⟩ : ∃ nv, nv = if bX (fH l t) = true then fH l t else 2100000000000001 := ⟨_, rfl⟩
        have hR : cH l t fee = if (l.any fun x => cE t x && !gP l x) = true then 15 else if (aM l (evL l t)).length > 100 then 15 else if eQ l t = true then 15 else if fee < nv then 11 else 0 := by
          rw [bAy hnd hpr hh hfp hnv (by omega), cH, if_neg (by simpa using hc), if_neg (by rw [hgf]; simp)]
          split
          · rfl
          · rw [if_neg (by rw [hh]; simp)]
        cases hgn : bX (fH l t) with
        | false =>
          rw [if_neg (by rw [hgn]; simp)] at hnv
          have hnN : fY l t = 0 := by unfold fY; rw [if_neg (by simpa using hc), if_neg (by rw [hh]; simp), if_neg (by rw [hgn]; simp)]
          have hnE : gE l t = 3 := by unfold gE; rw [if_neg (by simpa using hc), if_neg (by rw [hh]; simp), if_neg (by rw [hgn]; simp)]
          refine jE rfl ?_
          unfold gQ
          refine oy ?_
          repeat' (first|refine jA (b := .cons ⟨some 39, _, _⟩ _) (fun (vc : Value) w' => Ext w4 w' ∧ Own bO T.string w4.heap.size w' vc (aM l (bC l t))) (fun vc => [(2, .int .i64 fee), (3, .pointer (some ⟨bg, 0, none⟩)), (4, .pointer (some ⟨bt, 0, none⟩)), (9, .int .i64 2100000000000001), (36, vc), (37, .pointer (some ⟨g, 0, none⟩)), (38, .agg (aK t iv ov).toArray)]) ?_ ?_|(rintro vc ρ7 w7 ⟨x7, oc⟩; have sc := oc.sl; try dsimp only)|(exact ⟨v6, ⟨rfl, rfl, rfl, rfl, rfl, rfl, rfl, trivial⟩, by exact fx, Own.lower (Own.ext (by exact fx) o6) (Ext.size (by exact fx))⟩)|refine zF (d := some 32) (v := .bool true) ((qG _).trans (by rw [hgf])) ?_|refine go1 ?_|refine zg λ_ _=>?_|refine zi λ_ _=>?_|refine zD (d := some 3) rfl rfl (fun bg wg xg bg' (rg : Row wg ⟨bg, 0, none⟩ [.pointer (some ⟨g, 0, none⟩)]) hbg0=>?_)|refine zD (d := some 4) rfl rfl (fun bt wt xt bt' (rt : Row wt ⟨bt, 0, none⟩ (aK t iv ov)) hbt0=>?_)|(refine zC (d := some 17) rfl (fW (M := N) (cs := aK t iv ov) (t := t) _ (R.ext ht0 (by exact fx)) hs) ?_; rintro _ w3 ⟨rfl, x3⟩; rw [e0])|(refine zC (d := some 26) rfl (aDv (M := M) (N := N) (l := l) (cs := aK t iv ov) (t := t) _ (hG.ext (by exact fx)) (fun b hb => nLt (hM b hb) (Ext.size (by exact fx))) (R.ext ht0 (by exact fx)) hs hl hf) ?_; rintro _ w4 ⟨rfl, x4⟩; rw [hnN, hnE])|refine fR ?_ ?_|(refine zC (d := some 36) rfl (gH (M := M) (N := N) (l := l) (cs := aK t iv ov) (t := t) _ (hG.ext (by exact fx)) (fun b hb => nLt (hM b hb) (Ext.size (by exact fx))) (R.ext ht0 (by exact fx)) hs.ins hl) ?_; rintro v6 w6 ⟨o6, x6⟩)|(refine zC (d := some 39) rfl (kM (M := M) (N := N) (l := l) (cs := aK t iv ov) (t := t) _ (hG.ext (by exact fx)) (fun b hb => nLt (hM b hb) (Ext.size (by exact fx))) (R.ext ht0 (by exact fx)) hs.ins hl) ?_; rintro vg w8 ⟨og, x8⟩; have sg := og.sl)|refine bY (d := some 42) (E := bO) (l := aM l (bC l t)) rfl (SlE.ext (by exact fx) sc) ?_)
          have sc8 := SlE.ext x8 sc
          have rg8 : Row w8 ⟨bg, 0, none⟩ [.pointer (some ⟨g, 0, none⟩)] := rg.ext (by exact fx)
          have rt8 : Row w8 ⟨bt, 0, none⟩ (aK t iv ov) := rt.ext (by exact fx)
          have y08 : Ext w w8 := by exact fx
          have G8 := hG.ext y08
          have t8 := R.ext ht0 y08
          have hM8 : ∀ b ∈ M, b < w8.heap.size := fun b hb => nLt (hM b hb) y08.size
          have x08 : Unit → Ext w w8 := fun _ => y08
          clear y08
          have scR : SlR lL [] w8 vc (aM l (bC l t)) := SlE.toR (F := bO) (ag := false) sc8 (by simp)
          have tl : ∀ w1, Ext w8 w1 → rF F.replace_Rules_1 [.pointer (some ⟨bg, 0, none⟩)] lL (fun cs => cs.headD undef) [] w1 (aM l (bC l t)) (fun s => !gP l (dR l s)) := fun w1 x1 x hx w' cs x2 hc => by
            obtain rfl : cs = [Value.string x] := hc
            exact aLn (M := M) x w' (G8.ext (x1.trans x2)) (fun b hb => nLt (hM8 b hb) (x1.trans x2).size) hl (rg8.ext (x1.trans x2))
          clear oc og x8 x7 x4 x3 xt xg rg rt hG ht0 bg' bt' sc
          repeat' (first|refine go1 ?_|refine zg λ_ _=>?_|refine zi λ_ _=>?_|(refine zL (p := (((aM l (bC l t)).length : Nat) : Int) = 0) rfl (fun h => absurd h (by omega)) (fun _ => ?_))|(refine zC (d := some 47) rfl (zZ (l := aM l (bC l t)) (M := []) (g := F.replace_Rules_1) (capl := [_]) _ aRt (SlR.ext scR (by exact fx)) (by omega) (tl _ (by exact fx))) ?_; rintro _ w9 ⟨rfl, x9⟩; rw [aVz hnd])|refine zM rfl (fun h => ?_) (fun h => ?_)|refine bY (d := some 50) (E := bO) (l := aM l (evL l t)) rfl (SlE.ext (by exact fx) sg) ?_|(refine zJ (p := (((aM l (evL l t)).length : Nat) : Int) > 100) rfl (fun h => ?_) (fun h => ?_))|(refine zC (d := some 57) rfl (aNq (M := M) (N := N) (l := l) (cs := aK t iv ov) (t := t) _ (G8.ext (by exact fx)) (fun b hb => nLt (hM8 b hb) (Ext.size (by exact fx))) (R.ext t8 (by exact fx)) hs.ins hl (SlE.ext (by exact fx) sc8) (SlE.ext (by exact fx) sg)) ?_; rintro _ w10 ⟨rfl, x10⟩)|refine zL rfl (fun h => ?_) (fun h => ?_))
          all_goals
            rw [hR]
            first
              | (rw [if_pos ‹(l.any fun x => cE t x && !gP l x) = true›]
                 exact aC rfl ⟨rfl, Ext.trans (x08 ()) (by exact fx)⟩)
              | (rw [if_neg (by rw [‹(l.any fun x => cE t x && !gP l x) = false›]; simp)]
                 first
                   | (rw [if_pos (by omega)]
                      exact aC rfl ⟨rfl, Ext.trans (x08 ()) (by exact fx)⟩)
                   | (rw [if_neg (by omega)]
                      first
                        | (rw [if_pos ‹eQ l t = true›]
                           exact aC rfl ⟨rfl, Ext.trans (x08 ()) (by exact fx)⟩)
                        | (rw [if_neg (by rw [‹eQ l t = false›]; simp)]
                           first
                             | (rw [if_pos (by rw [hnv]; exact of_decide_eq_true (by assumption))]
                                exact aC rfl ⟨rfl, Ext.trans (x08 ()) (by exact fx)⟩)
                             | (rw [if_neg (by rw [hnv]; exact of_decide_eq_false (by assumption))]
                                exact aC rfl ⟨rfl, Ext.trans (x08 ()) (by exact fx)⟩))))
        | true =>
          rw [if_pos hgn] at hnv
          have hnN : fY l t = fH l t := by unfold fY; rw [if_neg (by simpa using hc), if_neg (by rw [hh]; simp), if_pos hgn]
          have hnE : gE l t = 0 := by unfold gE; rw [if_neg (by simpa using hc), if_neg (by rw [hh]; simp), if_pos hgn]
          refine jE rfl ?_
          unfold gQ
          refine oy ?_
          repeat' (first|refine jA (b := .cons ⟨some 39, _, _⟩ _) (fun (vc : Value) w' => Ext w4 w' ∧ Own bO T.string w4.heap.size w' vc (aM l (bC l t))) (fun vc => [(2, .int .i64 fee), (3, .pointer (some ⟨bg, 0, none⟩)), (4, .pointer (some ⟨bt, 0, none⟩)), (9, .int .i64 (fH l t)), (36, vc), (37, .pointer (some ⟨g, 0, none⟩)), (38, .agg (aK t iv ov).toArray)]) ?_ ?_|(rintro vc ρ7 w7 ⟨x7, oc⟩; have sc := oc.sl; try dsimp only)|(exact ⟨v6, ⟨rfl, rfl, rfl, rfl, rfl, rfl, rfl, trivial⟩, by exact fx, Own.lower (Own.ext (by exact fx) o6) (Ext.size (by exact fx))⟩)|refine zF (d := some 32) (v := .bool true) ((qG _).trans (by rw [hgf])) ?_|refine go1 ?_|refine zg λ_ _=>?_|refine zi λ_ _=>?_|refine zD (d := some 3) rfl rfl (fun bg wg xg bg' (rg : Row wg ⟨bg, 0, none⟩ [.pointer (some ⟨g, 0, none⟩)]) hbg0=>?_)|refine zD (d := some 4) rfl rfl (fun bt wt xt bt' (rt : Row wt ⟨bt, 0, none⟩ (aK t iv ov)) hbt0=>?_)|(refine zC (d := some 17) rfl (fW (M := N) (cs := aK t iv ov) (t := t) _ (R.ext ht0 (by exact fx)) hs) ?_; rintro _ w3 ⟨rfl, x3⟩; rw [e0])|(refine zC (d := some 26) rfl (aDv (M := M) (N := N) (l := l) (cs := aK t iv ov) (t := t) _ (hG.ext (by exact fx)) (fun b hb => nLt (hM b hb) (Ext.size (by exact fx))) (R.ext ht0 (by exact fx)) hs hl hf) ?_; rintro _ w4 ⟨rfl, x4⟩; rw [hnN, hnE])|refine fR ?_ ?_|(refine zC (d := some 36) rfl (gH (M := M) (N := N) (l := l) (cs := aK t iv ov) (t := t) _ (hG.ext (by exact fx)) (fun b hb => nLt (hM b hb) (Ext.size (by exact fx))) (R.ext ht0 (by exact fx)) hs.ins hl) ?_; rintro v6 w6 ⟨o6, x6⟩)|(refine zC (d := some 39) rfl (kM (M := M) (N := N) (l := l) (cs := aK t iv ov) (t := t) _ (hG.ext (by exact fx)) (fun b hb => nLt (hM b hb) (Ext.size (by exact fx))) (R.ext ht0 (by exact fx)) hs.ins hl) ?_; rintro vg w8 ⟨og, x8⟩; have sg := og.sl)|refine bY (d := some 42) (E := bO) (l := aM l (bC l t)) rfl (SlE.ext (by exact fx) sc) ?_)
          have sc8 := SlE.ext x8 sc
          have rg8 : Row w8 ⟨bg, 0, none⟩ [.pointer (some ⟨g, 0, none⟩)] := rg.ext (by exact fx)
          have rt8 : Row w8 ⟨bt, 0, none⟩ (aK t iv ov) := rt.ext (by exact fx)
          have y08 : Ext w w8 := by exact fx
          have G8 := hG.ext y08
          have t8 := R.ext ht0 y08
          have hM8 : ∀ b ∈ M, b < w8.heap.size := fun b hb => nLt (hM b hb) y08.size
          have x08 : Unit → Ext w w8 := fun _ => y08
          clear y08
          have scR : SlR lL [] w8 vc (aM l (bC l t)) := SlE.toR (F := bO) (ag := false) sc8 (by simp)
          have tl : ∀ w1, Ext w8 w1 → rF F.replace_Rules_1 [.pointer (some ⟨bg, 0, none⟩)] lL (fun cs => cs.headD undef) [] w1 (aM l (bC l t)) (fun s => !gP l (dR l s)) := fun w1 x1 x hx w' cs x2 hc => by
            obtain rfl : cs = [Value.string x] := hc
            exact aLn (M := M) x w' (G8.ext (x1.trans x2)) (fun b hb => nLt (hM8 b hb) (x1.trans x2).size) hl (rg8.ext (x1.trans x2))
          clear oc og x8 x7 x4 x3 xt xg rg rt hG ht0 bg' bt' sc
          repeat' (first|refine go1 ?_|refine zg λ_ _=>?_|refine zi λ_ _=>?_|(refine zL (p := (((aM l (bC l t)).length : Nat) : Int) = 0) rfl (fun h => absurd h (by omega)) (fun _ => ?_))|(refine zC (d := some 47) rfl (zZ (l := aM l (bC l t)) (M := []) (g := F.replace_Rules_1) (capl := [_]) _ aRt (SlR.ext scR (by exact fx)) (by omega) (tl _ (by exact fx))) ?_; rintro _ w9 ⟨rfl, x9⟩; rw [aVz hnd])|refine zM rfl (fun h => ?_) (fun h => ?_)|refine bY (d := some 50) (E := bO) (l := aM l (evL l t)) rfl (SlE.ext (by exact fx) sg) ?_|(refine zJ (p := (((aM l (evL l t)).length : Nat) : Int) > 100) rfl (fun h => ?_) (fun h => ?_))|(refine zC (d := some 57) rfl (aNq (M := M) (N := N) (l := l) (cs := aK t iv ov) (t := t) _ (G8.ext (by exact fx)) (fun b hb => nLt (hM8 b hb) (Ext.size (by exact fx))) (R.ext t8 (by exact fx)) hs.ins hl (SlE.ext (by exact fx) sc8) (SlE.ext (by exact fx) sg)) ?_; rintro _ w10 ⟨rfl, x10⟩)|refine zL rfl (fun h => ?_) (fun h => ?_))
          all_goals
            rw [hR]
            first
              | (rw [if_pos ‹(l.any fun x => cE t x && !gP l x) = true›]
                 exact aC rfl ⟨rfl, Ext.trans (x08 ()) (by exact fx)⟩)
              | (rw [if_neg (by rw [‹(l.any fun x => cE t x && !gP l x) = false›]; simp)]
                 first
                   | (rw [if_pos (by omega)]
                      exact aC rfl ⟨rfl, Ext.trans (x08 ()) (by exact fx)⟩)
                   | (rw [if_neg (by omega)]
                      first
                        | (rw [if_pos ‹eQ l t = true›]
                           exact aC rfl ⟨rfl, Ext.trans (x08 ()) (by exact fx)⟩)
                        | (rw [if_neg (by rw [‹eQ l t = false›]; simp)]
                           first
                             | (rw [if_pos (by rw [hnv]; exact of_decide_eq_true (by assumption))]
                                exact aC rfl ⟨rfl, Ext.trans (x08 ()) (by exact fx)⟩)
                             | (rw [if_neg (by rw [hnv]; exact of_decide_eq_false (by assumption))]
                                exact aC rfl ⟨rfl, Ext.trans (x08 ()) (by exact fx)⟩))))
  · have e0 : lF t = .tuple #[.int .i64 0, .int .i64 (aG t)] := by rw [lF, if_neg hc]
    have e : cH l t fee = aG t := by rw [cH, if_pos hc]
    rw [e]
    refine jE rfl ?_
    unfold gQ
    refine oy ?_
    repeat' (first|refine go1 ?_|refine zg λ_ _=>?_|refine zi λ_ _=>?_|refine zD (d := some 3) rfl rfl (fun bg wg xg bg' (rg : Row wg ⟨bg, 0, none⟩ [.pointer (some ⟨g, 0, none⟩)]) hbg0=>?_)|refine zD (d := some 4) rfl rfl (fun bt wt xt bt' (rt : Row wt ⟨bt, 0, none⟩ (aK t iv ov)) hbt0=>?_)|(refine zC (d := some 17) rfl (fW (M := N) (cs := aK t iv ov) (t := t) _ (R.ext ht0 (by exact fx)) hs) ?_; rintro _ w3 ⟨rfl, x3⟩; rw [e0])|refine zN (p := aG t = 0) rfl (fun _ => ?_) (fun h => absurd h hc))
    exact aC rfl ⟨rfl, by exact fx⟩
end
end Go.Proofs.YtfebcajheojodaaGreatDoor
namespace Go.K
section
open Go Go.Proofs.YtfebcajheojodaaGreatDoor
end
end Go.K
namespace Go.Proofs.YtfebcajheojodaaGreatDoor
section
open Go Go.K
attribute [local irreducible] aO aU bQ KOp.wp K.Spec u32 leS vnS str aV cU cD idT aR aG aX idN bD cF bT bH cA cO bN5 idL
attribute [local irreducible] eB fY gE cH bC evL aM
end
end Go.Proofs.YtfebcajheojodaaGreatDoor
namespace Go.K
section
open Go
theorem aUj {p q:Pt} (h1:p.s=q.s) (h2:p.i=q.i):p=q:=by cases p;cases q;simp_all
theorem bDf {α:Type} {l m:List α} {i:Nat} (h:l.take i=m.take i) (hl:i<l.length) (hm:i<m.length) (e:l[i]=m[i]):l.take (i+1)=m.take (i+1):=by
 rw [List.take_succ_eq_append_getElem hl,List.take_succ_eq_append_getElem hm,h,e]
end
end Go.K
namespace Go.Proofs.YtfebcajheojodaaGreatDoor
section
open Go Go.K
attribute [local irreducible] aO aU bQ KOp.wp K.Spec u32 leS vnS str aV cU cD idT aR aG aX
end
section
open Go Go.K
attribute [local irreducible] aO aU bQ KOp.wp K.Spec u32 leS vnS str aV cU cD idT aR aG aX idN bD cF bT bH cA cO fY gE cH kX bC evL aM qY aCp cE inB aZ dC bU
end
section
open Go Go.K
attribute [local irreducible] aO aU bQ KOp.wp K.Spec
theorem aUr (p:Pt) (c:Cn) (w:World):K.Spec Tryz.prog F.coins_formed [p.val,c.val] w fun v w'=>v=.bool (eG p c)∧Ext w w':=by
 refine aNv rfl ?_
 unfold aCx
 refine oy ?_
 repeat (first|refine go ?_|refine zg λ_ _=>?_|refine zi λ_ _=>?_)
 refine uC rfl rfl (fun b1 w1 x1 _ r1 _=>?_)
 repeat (first|refine go ?_|refine zg λ_ _=>?_|refine zi λ_ _=>?_)
 refine uC rfl rfl (fun b2 w2 x2 _ r2 _=>?_)
 repeat (first|refine go ?_|refine zg λ_ _=>?_|refine zi λ_ _=>?_)
 have e32:((p.s.size:Int)=32)↔p.s.size=32:=by omega
 refine qE rfl (fun h1=>?_) (fun h1=>?_)
 ·repeat (first|refine go ?_|refine zg λ_ _=>?_|refine zi λ_ _=>?_)
  refine qE rfl (fun h2=>?_) (fun h2=>?_)
  ·repeat (first|refine go ?_|refine zg λ_ _=>?_|refine zi λ_ _=>?_)
   refine qE rfl (fun h3=>?_) (fun h3=>?_)
   ·repeat (first|refine go ?_|refine zg λ_ _=>?_|refine zi λ_ _=>?_)
    refine aC rfl ⟨congrArg Value.bool ?_,x1.trans x2⟩
    simp [eG,e32.1 h1,h2,h3]
   ·repeat (first|refine go ?_|refine zg λ_ _=>?_|refine zi λ_ _=>?_)
    refine aC rfl ⟨congrArg Value.bool ?_,x1.trans x2⟩
    simp [eG,h3]
  ·repeat (first|refine go ?_|refine zg λ_ _=>?_|refine zi λ_ _=>?_)
   refine aC rfl ⟨congrArg Value.bool ?_,x1.trans x2⟩
   simp [eG,h2]
 ·repeat (first|refine go ?_|refine zg λ_ _=>?_|refine zi λ_ _=>?_)
  refine aC rfl ⟨congrArg Value.bool ?_,x1.trans x2⟩
  have h1':¬p.s.size=32:=fun h=>h1 (e32.2 h)
  simp [eG,h1']
theorem bFt (w:World):K.Spec Tryz.prog F.coins_New [] w fun v w'=>∃b mb,v=.pointer (some ⟨b,0,none⟩)∧sZ T.coins_Set w' b mb []∧w.heap.size≤b∧w.heap.size≤mb∧Ext w w':=by
 refine aY3 rfl ?_
 unfold aL1
 refine oy ?_
 repeat (first|refine go ?_|refine zg λ_ _=>?_|refine zi λ_ _=>?_)
 refine kI (E:=ptK) (fv:=Cn.val) (fun mb w1 x1 hm hmb=>?_)
 repeat (first|refine go ?_|refine zg λ_ _=>?_|refine zi λ_ _=>?_)
 refine uC rfl rfl (fun b w2 x2 a2 r2 hb=>?_)
 repeat (first|refine go ?_|refine zg λ_ _=>?_|refine zi λ_ _=>?_)
 exact aC rfl ⟨b,mb,rfl,⟨a2,hm.ext x2,Mon.nil⟩,nTr x1.size hb,hmb,x1.trans x2⟩
theorem bEn {t:TypeId} {b mb:Nat} {m:List En} (p:Pt) (w:World) (h:sZ t w b mb m):K.Spec Tryz.prog F.coins_Set_Get [.pointer (some ⟨b,0,none⟩),p.val] w fun v w'=>v=.tuple #[(aJl m p).val,.bool (aS m p).isSome]∧Ext w w':=by
 have r:=h.row
 have hM:=h.2.1
 refine aNf rfl ?_
 unfold aA7
 refine oy ?_
 repeat' (first|refine zD (d:=some 3) rfl rfl (fun b1 w1 x1 a1 (r1:Row w1 ⟨b1,0,none⟩ p.cs) hb1=>?_)|(refine zH (d:=some 4) (fun b2 w2 x2 a2 hb2=>?_);have s2:w.heap.size≤b2:=nTr x1.size hb2)|refine mZ (d:=some 17) (E:=ptK) (fv:=Cn.val) (k:=p) rfl rfl (dW.ext (w:=w) (by exact fx) hM) rfl rfl (fun c hc=>?_) (fun hc=>?_)|(refine zH (d:=some 6) (fun b6 w6 x6 a6 hb6=>?_);have s6:w.heap.size≤b6:=nTr (Ext.size (w:=w) (by exact fx)) hb6;have s26:w2.heap.size≤b6:=nTr (Ext.size (w:=w2) (by exact fx)) hb6)|refine go1 ?_|refine zg λ_ _=>?_|refine zi λ_ _=>?_)
 ·refine bP (w0:=w) (vs:=c.cs) (by exact fx) s6 a6 rfl rfl rfl rfl rfl (fun w7 x7 c7 a7 r7=>?_)
  have a2':=At.chg c7 (At.ext (w:=w2) (by exact fx) a2) (by have:=a2.lt;simp;omega)
  repeat (first|refine go1 ?_|refine zg λ_ _=>?_|refine zi λ_ _=>?_)
  refine bP (w0:=w) (vs:=c.cs) (by exact fx) s2 a2' rfl rfl rfl rfl rfl (fun w9 x9 c9 a9 r9=>?_)
  repeat (first|refine go1 ?_|refine zg λ_ _=>?_|refine zi λ_ _=>?_)
  exact aC (lQ (cL r9 rfl rfl) cX) ⟨by rw [aJl,hc];rfl,x9⟩
 ·refine bP (w0:=w) (vs:=cn0.cs) (by exact fx) s6 a6 rfl rfl rfl rfl rfl (fun w7 x7 c7 a7 r7=>?_)
  have a2':=At.chg c7 (At.ext (w:=w2) (by exact fx) a2) (by have:=a2.lt;simp;omega)
  repeat (first|refine go1 ?_|refine zg λ_ _=>?_|refine zi λ_ _=>?_)
  refine bP (w0:=w) (vs:=cn0.cs) (by exact fx) s2 a2' rfl rfl rfl rfl rfl (fun w9 x9 c9 a9 r9=>?_)
  repeat (first|refine go1 ?_|refine zg λ_ _=>?_|refine zi λ_ _=>?_)
  exact aC (lQ (cL r9 rfl rfl) cX) ⟨by rw [aJl,hc];rfl,x9⟩
set_option maxHeartbeats 1000000 in
theorem bFp {t:TypeId} {b mb:Nat} {m:List En} (p:Pt) (c:Cn) (w:World) (h:sZ t w b mb m):K.Spec Tryz.prog F.coins_Set_Put [.pointer (some ⟨b,0,none⟩),p.val,c.val] w fun v w'=>
  v=.int .i64 (gJ m p c)∧sZ t w' b mb (wK m p c)∧Chg [b,mb] w w':=by
 have r:=h.row
 have hne:=h.ne
 have hb:=h.1.lt
 have hmb:=h.2.1.lt
 have hM:=h.2.1
 have fail:∀{w':World} {n:Int},Ext w w'→n≠0→gJ m p c=n→Value.int .i64 n=.int .i64 (gJ m p c)∧sZ t w' b mb (wK m p c)∧Chg [b,mb] w w':=by
  intro w' n x hn hc
  refine ⟨by rw [hc],?_,Chg.mono x (by simp)⟩
  rw [wK,if_neg (by rw [hc];exact hn)];exact h.ext x
 refine aM3 rfl ?_
 unfold aBb
 refine oy ?_
 repeat' (first|refine zD (d:=some 4) rfl rfl (fun b1 w1 x1 a1 (r1:Row w1 ⟨b1,0,none⟩ p.cs) hb1=>?_)|refine zD (d:=some 5) rfl rfl (fun b2 w2 x2 a2 (r2:Row w2 ⟨b2,0,none⟩ c.cs) hb2=>?_)|(refine zC (d:=some 17) rfl (aUr p c _) ?_;rintro _ w3 ⟨rfl,x3⟩)|refine zW (x:=.tmp 14) rfl (fun hf=>?_) (fun hf=>?_)|refine mZ (d:=some 25) (E:=ptK) (fv:=Cn.val) (k:=p) rfl rfl (dW.ext (w:=w) (by exact fx) hM) rfl rfl (fun d hd=>?_) (fun hd=>?_)|(refine zH (d:=some 7) (fun b6 w6 x6 a6 hb6=>?_);have s6:w.heap.size≤b6:=nTr (Ext.size (w:=w) (by exact fx)) hb6;have s26:w2.heap.size≤b6:=nTr (Ext.size (w:=w2) (by exact fx)) hb6)|refine bP (w0:=w) (n:=3) (vs:=d.cs) (by exact fx) s6 a6 rfl rfl rfl rfl rfl (fun w7 x7 c7 a7 r7=>?_)|(refine bP (w0:=w) (n:=3) (vs:=cn0.cs) (by exact fx) s6 a6 rfl rfl rfl rfl rfl (fun w7 x7 c7 a7 r7=>?_);replace r1:Row w7 ⟨b1,0,none⟩ p.cs:=Row.chg c7 (Row.ext (w:=w1) (by exact fx) r1) (by have:=a1.lt;have:=x2.size;simp;omega);replace r2:Row w7 ⟨b2,0,none⟩ c.cs:=Row.chg c7 (Row.ext (w:=w2) (by exact fx) r2) (by have:=a2.lt;simp;omega);have s01:=x1.size;clear x1 x2 x3 x6 c7 a6)|(refine zC (d:=some 37) rfl (aX4 (tot m) c.v _) ?_;rintro _ w8 ⟨rfl,rfl⟩)|refine zN (p:=(if iQ (tot m) c.v=true then (0:Int) else 3)=0) rfl (fun he=>?_) (fun he=>?_)|refine fR ?_ ?_|refine go1 ?_|refine zg λ_ _=>?_|refine zi λ_ _=>?_)
 ·exact aC rfl (fail (by exact fx) (by decide) (bJ2 (by simpa using hf)))
 ·exact aC rfl (fail x7 (by decide) (bJi (by simpa using hf) hd))
 ·have hP:=aZa (by simpa using hf) hd h.2.2
  have ho:iQ (tot m) c.v=false:=by
   cases hx:iQ (tot m) c.v
   ·rfl
   ·rw [hx] at he;exact absurd rfl he
  rw [ho] at hP
  refine aC (v:=.int .i64 3) ?_ (fail (by exact fx) (by decide) hP)
  rw [ho];rfl
 all_goals
  have ho:iQ (tot m) c.v=true:=by
   cases hx:iQ (tot m) c.v
   ·rw [hx] at he;exact absurd he (by decide)
   ·rfl
  have hP:gJ m p c=0:=by rw [aZa (by simpa using hf) hd h.2.2,ho];rfl
  have hn:∀{w' w'':World},At w' b (.cells ([Value.map (some mb),.int .i64 (tot m)].set 1 (.int .i64 (if iQ (tot m) c.v=true then tot m+c.v else 0))).toArray t (0,0))→dW ptK Cn.val w' mb (fN m p c)→Ext w' w''→sZ t w'' b mb (wK m p c):=by
   intro w' w'' ha hM x
   rw [wK,if_pos hP]
   rw [bF5 hd] at hM
   refine ⟨?_,hM.ext x,h.2.2.put hP⟩
   have:=ha.ext x
   rw [ho] at this
   have e:tot (m++ [(p,c)])=tot m+c.v:=by simp
   rw [e];exact this
  rename_i x78 w9 x89
  have x79:Ext w7 w9:=x78.trans x89
  have x09:Ext w w9:=x7.trans x79
  have h9:=h.ext x09
  have r19:=r1.ext x79
  have r29:=r2.ext x79
  have r9:=h9.row
  clear x7 x78 x89 x79 r1 r2 r r7 a7
  repeat' (first|(refine aV7 (d:=some 51) (E:=ptK) (fv:=Cn.val) (k:=p) rfl rfl h9.2.1 rfl rfl (fun st w10 c10 hM10=>?_);have r210:Row w10 ⟨b2,0,none⟩ c.cs:=r29.chg c10 (by simp;omega);have a10:=h9.1.chg c10 (by simp;omega))|(refine aEy (E:=ptK) (fv:=Cn.val) (k:=p) (v:=c) rfl rfl rfl hM10 (fun w11 c11 hM11=>?_);have a11:=a10.chg c11 (by simp;omega))|refine go1 ?_|refine zg λ_ _=>?_|refine zi λ_ _=>?_)
  refine cN (b:=b) (o:=1) rfl rfl rfl a11 (by simp) (fun w12 c12 a12=>?_)
  repeat (first|refine go1 ?_|refine zg λ_ _=>?_|refine zi λ_ _=>?_)
  refine aC rfl ⟨by rw [hP];rfl,hn a12 (hM11.chg c12 (by simp;omega)) (Ext.refl _),?_⟩
  refine (x09.chg (c10.trans (c11.trans c12))).mono ?_
  intro y hy
  simp at hy ⊢
  omega
end
section
open Go Go.K
section
variable {P:Program} {d:Option Tmp} {r:KR} {K:Env→World→Prop} {ρ:Env} {w:World}
theorem aSw {x:Operand} {name:String} {args:List Operand} {t:TypeId} {u rv:Value} {fn:FuncId} {vs:List Value} {R:Value→World→Prop} (hx:ev ρ x=.iface t u) (hm:uA P t u name=some (fn,rv)) (hb:cM P fn=true) (ha:rv::args.map (ev ρ)=vs)
  (h:Go.K.Spec P fn vs w R) (k:∀v w',R v w'→aO P r K (put ρ d v) w'):aO P (.cons ⟨d,.invoke x name args,none⟩ r) K ρ w:=
 iI ⟨t,u,fn,rv,hx,hm,hb,by subst ha;exact h.mono fun e w' ⟨v,hv,hR⟩=>⟨v,hv,k v w' hR⟩⟩
theorem bL6 {f:TypeId→Value→String→Bool} {x:Operand} {name:String} {t:TypeId} {u:Value} (hx:ev ρ x=.func (.method name) #[.iface t u] #[]) (hm:f t u name=true) (k:aO P r K (put ρ d (.func (.method name) #[.iface t u] #[])) w):aO P (.cons ⟨d,.nilM f x,none⟩ r) K ρ w:=
 dK rfl (by simp [KOp.fix,hx,hm]) k
end
theorem bOq {t:TypeId} {u:Value} {s:String} (h:aWb Tryz.prog t u s=true):mo t u s=true:=by unfold mo;exact h
abbrev aFi (c:Int):Value:=.iface T.api_Errno (.int .i64 c)
def eJ (w:World):Nat→Value→Int→Int→Prop
 |0,v,c,a=>a= -1∧(c=0∧v=.nilIface∨c≠0∧v=aFi c)
 |d+1,v,c,a=>eJ w d v c a∨c≠0∧0≤a∧∃b u a',v=.iface T.P_api_Fault (.pointer (some ⟨b,0,none⟩))∧At w b (.cells [.int .i64 a,u].toArray T.api_Fault (0,0))∧eJ w d u c a'
theorem eJ.ext {w w':World} (x:Ext w w'):∀{d:Nat} {v:Value} {c a:Int},eJ w d v c a→eJ w' d v c a
 |0,_,_,_,h=>h
 |_+1,_,_,_,.inl h=>.inl (eJ.ext x h)
 |_+1,_,_,_,.inr ⟨h1,h2,b,u,a',h3,h4,h5⟩=>.inr ⟨h1,h2,b,u,a',h3,h4.ext x,eJ.ext x h5⟩
theorem eJ.none_ (w:World) (d:Nat):eJ w d .nilIface 0 (-1):=by
 induction d with
 |zero=>exact ⟨rfl,.inl ⟨rfl,rfl⟩⟩
 |succ d ih=>exact .inl ih
theorem eJ.num (w:World) (d:Nat) {c:Int} (h:c≠0):eJ w d (aFi c) c (-1):=by
 induction d with
 |zero=>exact ⟨rfl,.inr ⟨h,rfl⟩⟩
 |succ d ih=>exact .inl ih
theorem eJ.nil_iff {w:World}:∀{d:Nat} {v:Value} {c a:Int},eJ w d v c a→(c=0→v=.nilIface∧a= -1)∧(c≠0→∃t u,v=.iface t u)
 |0,_,_,_,⟨h1,h2⟩=>by
  rcases h2 with ⟨h2,h3⟩|⟨h2,h3⟩
  ·exact ⟨fun _=>⟨h3,h1⟩,fun h=>absurd h2 h⟩
  ·exact ⟨fun h=>absurd h h2,fun _=>⟨_,_,h3⟩⟩
 |_+1,_,_,_,.inl h=>eJ.nil_iff h
 |_+1,_,_,_,.inr ⟨h1,_,_,_,_,h3,_⟩=>⟨fun h=>absurd h h1,fun _=>⟨_,_,h3⟩⟩
def lE (w:World) (v:Value) (f:Pt→Option Cn):Prop:=(∃t u,v=.iface t u∧∀p:Pt,dV p.i→∀w1,Ext w w1→∃fn rv,aWb Tryz.prog t u "Get" =true∧uA Tryz.prog t u "Get" =some (fn,rv)∧cM Tryz.prog fn=true∧
  K.Spec Tryz.prog fn [rv,.agg p.cs.toArray] w1 fun r w2=>∃c:Cn,r=.tuple #[.agg c.cs.toArray,.bool (f p).isSome]∧(f p).getD cn0=c∧Ext w1 w2)∧∀p c,f p=some c→c.s.size≤1000000
theorem lE.ext {w w':World} {v:Value} {f:Pt→Option Cn} (h:lE w v f) (x:Ext w w'):lE w' v f:=by
 obtain ⟨⟨t,u,e,h⟩,h2⟩:=h
 exact ⟨⟨t,u,e,fun p hp w1 x1=>h p hp w1 (x.trans x1)⟩,h2⟩
theorem lE.of_set {w:World} {b mb:Nat} {m:List En} (h:sZ T.coins_Set w b mb m) (hs:∀e∈m,e.2.s.size≤1000000):lE w (.iface T.P_coins_Set (.pointer (some ⟨b,0,none⟩))) (aS m):=by
 refine ⟨⟨_,_,rfl,fun p hp w1 x1=>⟨F.coins_Set_Get,.pointer (some ⟨b,0,none⟩),by kernel_rfl,by kernel_rfl,by kernel_rfl,?_⟩⟩,fun p c hc=>hs _ (tV hc)⟩
 have:=bEn p w1 (h.ext x1)
 unfold K.Spec at this ⊢
 exact this.mono fun e w2 ⟨v,e1,e2,x2⟩=>⟨v,e1,aJl m p,e2,rfl,x2⟩
end
section
open Go Go.K
attribute [local irreducible] aO aU bQ KOp.wp K.Spec u32 leS vnS str aV cU cD idT aR aG aX
abbrev bCp (v g:Value) (h:Int):Value:=.iface T.pool_over (.agg #[v,g,.int .i64 h])
theorem bB7 (vt:TypeId) (vu:Value) (o:Option Addr) (h:Int) (w:World):K.Spec Tryz.prog F.pool_Over [.pointer o,.iface vt vu,.int .i64 h] w fun r w'=>r=bCp (.iface vt vu) (.pointer o) h∧Ext w w':=by
 refine aW9 rfl ?_
 unfold aLq
 refine oy ?_
 repeat' (first|refine bL (d:=some 10) (cs:= [.iface vt vu,.pointer o,.int .i64 h]) rfl ?_|refine go1 ?_|refine zg λ_ _=>?_|refine zi λ_ _=>?_)
 exact aC rfl ⟨rfl,Ext.refl _⟩
theorem aYi {l:List Ent} (hE:∀x∈l,EntOk x) {h:Int} {p:Pt} {c:Cn} (hc:aE0 l h p=some c):c.s.size≤1000000:=by
 unfold aE0 at hc
 split at hc
 ·rename_i hh
  obtain ⟨o,ho,rfl⟩:=Option.map_eq_some_iff.1 hc
  have h1:dO l p.s=true:=by
   have:=hh
   simp only [dM,Bool.and_eq_true] at this
   exact this.1
  obtain ⟨y,hy,e⟩:=List.any_eq_true.1 h1
  cases hf:l.find? fun x=>decide (x.id=p.s) with
  |none=>exact absurd e (List.find?_eq_none.1 hf y hy)
  |some z=>
   obtain ⟨_,e2,e3,_⟩:=aDh hf
   have hck:=(hE z e3).check
   have hz:=bI (fE hck) hck
   rw [e2] at ho
   have:=hz.scr o (List.mem_of_getElem? ho)
   show o.s.size≤1000000
   omega
 ·cases hc
abbrev cZ:List Value:= [.int .i64 0,.string ⟨#[]⟩,.int .i64 0]
set_option maxHeartbeats 1000000 in
theorem bEb {w:World} {v:Value} {f:Pt→Option Cn} {g:Nat} {M:List Nat} {l:List Ent} (h:Int) (hV:lE w v f) (hG:GrR w g M l) (hM:∀b∈M,b<w.heap.size):lE w (bCp v (.pointer (some ⟨g,0,none⟩)) h) (dP f l h):=by
 have hE:=hG.ok
 obtain ⟨⟨t,u,rfl,hv⟩,hz⟩:=hV
 refine ⟨⟨_,_,rfl,fun p hp w1 x1=>⟨F.pool_over_Get,.agg #[.iface t u,.pointer (some ⟨g,0,none⟩),.int .i64 h],by kernel_rfl,by kernel_rfl,by kernel_rfl,?_⟩⟩,fun p c hc=>?_⟩
 ·replace hG:=hG.ext x1
  replace hM:∀b∈M,b<w1.heap.size:=fun b hb=>nLt (hM b hb) x1.size
  refine aNc rfl ?_
  unfold aA5
  refine oy ?_
  repeat (first|refine zD (d:=some 2) (cs:= [.iface t u,.pointer (some ⟨g,0,none⟩),.int .i64 h]) rfl rfl (fun b2 w2 x2 a2 (r2:Row w2 ⟨b2,0,none⟩ [.iface t u,.pointer (some ⟨g,0,none⟩),.int .i64 h]) hb2=>?_)|refine zD (d:=some 3) (cs:=p.cs) rfl rfl (fun b3 w3 x3 a3 (r3:Row w3 ⟨b3,0,none⟩ p.cs) hb3=>?_)|(refine zH (d:=some 4) (fun b4 w4 x4 a4 hb4=>?_);have x14:Unit→Ext w1 w4:=(fun _=>by exact fx);have h14:w1.heap.size≤b4:=nTr (Ext.size (show Ext w1 w3 by exact fx)) hb4)|refine go1 ?_|refine zg λ_ _=>?_|refine zi λ_ _=>?_)
  obtain ⟨fn,rv,_,hm,hb,hS⟩:=hv p hp w4 (x1.trans (x14 ()))
  refine aSw (d:=some 17) rfl hm hb rfl hS ?_
  rintro _ w6 ⟨c,rfl,hc,x6⟩
  obtain ⟨bb,hbb⟩:∃bb,(f p).isSome=bb:=⟨_,rfl⟩
  rw [hbb]
  cases bb with
  |true=>
   obtain ⟨d,hf⟩:=Option.isSome_iff_exists.1 hbb
   have e:dP f l h p=some d:=by unfold dP;rw [hf];rfl
   have ec:d=c:=by rw [hf] at hc;exact hc
   subst ec
   rw [e]
   repeat (first|refine go1 ?_|refine zg λ_ _=>?_|refine zi λ_ _=>?_)
   refine zE (d':=6) (fun _=>rfl) rfl rfl rfl (fun b7 w7 x7 a7 (r7:Row w7 ⟨b7,0,none⟩ d.cs) hb7=>?_)
   repeat (first|refine go1 ?_|refine zg λ_ _=>?_|refine zi λ_ _=>?_)
   have a7':At w7 b4 _:=At.ext x7 (At.ext x6 a4)
   have x17:Ext w1 w7:=(x14 ()).trans (x6.trans x7)
   refine bP (w0:=w1) (vs:=d.cs) x17 h14 a7' rfl rfl rfl rfl rfl (fun w9 x9 c9 a9 r9=>?_)
   repeat (first|refine go1 ?_|refine zg λ_ _=>?_|refine zi λ_ _=>?_)
   exact aC (lQ (cL r9 rfl rfl) cX) ⟨_,rfl,rfl,x9⟩
  |false=>
   have hf:f p=none:=by simpa using hbb
   cases ho:dM l p with
   |false=>
    have e:dP f l h p=none:=by unfold dP aE0;rw [ho,hf];rfl
    rw [e]
    repeat' (first|(refine zC (d:=some 26) rfl (aJs (M:=M) (l:=l) p hp _ (hG.ext (by exact fx)) (fun b hb=>nLt (hM b hb) (Ext.size (by exact fx)))) ?_;rintro _ w5 ⟨o,rfl,ho5,x5⟩;rw [ho])|refine zE (d':=6) (fun _=>rfl) rfl rfl rfl (fun b7 w7 x7 a7 (r7:Row w7 ⟨b7,0,none⟩ c.cs) hb7=>?_)|refine zE (d':=8) (fun _=>rfl) rfl rfl rfl (fun b8 w8 x8 a8 (r8:Row w8 ⟨b8,0,none⟩ (fD o)) hb8=>?_)|refine bL (d:=some 31) (cs:=cZ) rfl ?_|refine go1 ?_|refine zg λ_ _=>?_|refine zi λ_ _=>?_)
    refine bP (w0:=w1) (vs:=cZ) ((x14 ()).trans (x6.trans (x7.trans (x5.trans x8)))) h14 (At.ext x8 (At.ext x5 (At.ext x7 (At.ext x6 a4)))) rfl rfl rfl rfl rfl (fun w9 x9 c9 a9 r9=>?_)
    repeat (first|refine go1 ?_|refine zg λ_ _=>?_|refine zi λ_ _=>?_)
    exact aC (lQ (cL r9 rfl rfl) cX) ⟨cn0,rfl,rfl,x9⟩
   |true=>
    repeat' (first|(refine zC (d:=some 26) rfl (aJs (M:=M) (l:=l) p hp _ (hG.ext (by exact fx)) (fun b hb=>nLt (hM b hb) (Ext.size (by exact fx)))) ?_;rintro _ w5 ⟨o,rfl,ho5,x5⟩;rw [ho];have ho6:=ho5 ho)|refine zE (d':=6) (fun _=>rfl) rfl rfl rfl (fun b7 w7 x7 a7 (r7:Row w7 ⟨b7,0,none⟩ c.cs) hb7=>?_)|refine zE (d':=8) (fun _=>rfl) rfl rfl rfl (fun b8 w8 x8 a8 (r8:Row w8 ⟨b8,0,none⟩ (fD o)) hb8=>?_)|refine bL (d:=some 35) (cs:=Cn.cs ⟨o.v,o.s,h⟩) rfl ?_|refine go1 ?_|refine zg λ_ _=>?_|refine zi λ_ _=>?_)
    refine bP (w0:=w1) (vs:=Cn.cs ⟨o.v,o.s,h⟩) ((x14 ()).trans (x6.trans (x7.trans (x5.trans x8)))) h14 (At.ext x8 (At.ext x5 (At.ext x7 (At.ext x6 a4)))) rfl rfl rfl rfl rfl (fun w9 x9 c9 a9 r9=>?_)
    repeat (first|refine go1 ?_|refine zg λ_ _=>?_|refine zi λ_ _=>?_)
    have e:dP f l h p=some ⟨o.v,o.s,h⟩:=by
     unfold dP aE0
     rw [hf,if_pos ho]
     show Option.map _ _=_
     rw [show (dR l p.s).tx.outs[p.i.toNat]? =some o from ho6];rfl
    rw [e]
    exact aC (lQ (cL r9 rfl rfl) cX) ⟨_,rfl,rfl,x9⟩
 ·unfold dP at hc
  cases hf:f p with
  |some d2=>rw [hf] at hc;cases hc;exact hz p _ hf
  |none=>rw [hf] at hc;exact aYi hE hc
end
end Go.Proofs.YtfebcajheojodaaGreatDoor
