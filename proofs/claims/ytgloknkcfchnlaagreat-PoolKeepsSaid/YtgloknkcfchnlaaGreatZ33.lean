/- Contracts: the least fee, and the rules, by the program. Con -/
import Derived.Test.YtgloknkcfchnlaaGreatZ28
import Derived.Test.YtgloknkcfchnlaaGreatZ31
import Derived.Test.YtgloknkcfchnlaaGreatZ32
set_option linter.unusedVariables false
set_option linter.unusedSimpArgs false
namespace Go.Proofs.YtgloknkcfchnlaaGreat
section
open Go Go.K
section
variable {P:Program} {d:Option Tmp} {r:KR} {K:Env→World→Prop} {ρ:Env} {w:World}
theorem bOn {x y:Operand} {n m:Nat} (hx:ev ρ x=.int .u64 (n:Nat)) (hy:ev ρ y=.int .u64 (m:Nat)) (h0:0<m) (hn:n<18446744073709551616) (k:aF P r K (put ρ d (.int .u64 ((n / m:Nat):Int))) w):aF P (.cons ⟨d,.bin .quo x y,none⟩ r) K ρ w:=
 dH rfl (by
  have e:∀m:Int,IntKind.u64.wrap m=m%18446744073709551616:=fun _=>rfl
  have h1:(n:Int).tdiv (m:Int)=((n / m:Nat):Int):=by rw [Int.tdiv_eq_ediv_of_nonneg (by omega)];rfl
  have h2:=Nat.div_le_self n m
  have h3:∀q:Nat,q≤n→((q:Nat):Int)%18446744073709551616=((q:Nat):Int):=fun q hq=>Int.emod_eq_of_lt (by omega) (by omega)
  have h4:¬(m:Int)=0:=by omega
  simp only [KOp.fix,hx,hy,bZ,dY,Bool.false_eq_true,if_false,if_true,dS,h4,h1,e,h3 _ h2]) k
theorem bPz {x y:Operand} {n m:Nat} (hx:ev ρ x=.int .u64 (n:Nat)) (hy:ev ρ y=.int .u64 (m:Nat)) (h0:0<m) (k:aF P r K (put ρ d (.int .u64 ((n%m:Nat):Int))) w):aF P (.cons ⟨d,.bin .rem x y,none⟩ r) K ρ w:=
 dH rfl (by
  have h1:(n:Int).tmod (m:Int)=((n%m:Nat):Int):=by rw [Int.tmod_eq_emod_of_nonneg (by omega)];rfl
  have h4:¬(m:Int)=0:=by omega
  simp only [KOp.fix,hx,hy,bZ,dY,Bool.false_eq_true,if_false,if_true,dS,h4,h1]) k
end
theorem aIw {x:Ent} (h:EntOk x):iW x.fee x.size=true:=by
 unfold iW
 rw [h.fee,Bool.true_and,h.size]
 have:=(cB (lE h.check) h.check).sizeM
 exact dTr (by omega)
def gT (l:List Ent) (t:Tx):Int:=if aE t≠0 then aE t else if l.any (gJ t)=false then 0 else if cD (fY l t)=true then 0 else 3
def gY (l:List Ent) (t:Tx):Int:=if aE t≠0 then 0 else if l.any (gJ t)=false then 0 else if cD (fY l t)=true then fY l t else 0
attribute [local irreducible] aF aP bG KOp.wp K.Spec u32 leS vnS str aR dE bS idT aO aE aQ idN bB cH bY bT cE eO bF cI aK kI fP qT mQ bV evL inS inB jH fY jR
theorem bFj (lo y:Nat) (hy0:0<y) (hlo:lo<18446744073709551616) (w:World):K.Spec Tryz.prog F.math_bits_Div64 [.int .u64 0,.int .u64 (lo:Nat),.int .u64 (y:Nat)] w fun r w'=>r=.tuple #[.int .u64 ((lo / y:Nat):Int),.int .u64 ((lo%y:Nat):Int)]∧Ext w w':=by
 refine aKm rfl ?_
 unfold xL
 refine oy ?_
 repeat' (first|refine bOn (d:=some 30) (n:=lo) (m:=y) rfl rfl hy0 hlo ?_|refine bPz (d:=some 33) (n:=lo) (m:=y) rfl rfl hy0 ?_|refine zL (p:=((y:Nat):Int)=0) rfl (fun h=>absurd h (by omega)) (fun _=>?_)|refine zL (p:=((y:Nat):Int)≤0) rfl (fun h=>absurd h (by omega)) (fun _=>?_)|refine go1 ?_|refine zg λ_ _=>?_|refine zi λ_ _=>?_|refine fD ?_ ?_)
 all_goals exact aA rfl ⟨rfl,by exact fx⟩
theorem aWn (S F' I':Nat) (hS:S≤1000000) (hF:F'≤1000000000000) (hI:0<I'∧I'≤1000000) (w:World):K.Spec Tryz.prog F.replace_above [.int .i64 (S:Nat),.int .i64 (F':Nat),.int .i64 (I':Nat)] w fun r w'=>r=.int .i64 ((F':Int)*(S:Int) / (I':Int)+1)∧Ext w w':=by
 have hp:F'*S≤1000000000000*1000000:=Nat.mul_le_mul hF hS
 have h1:F'*S / 18446744073709551616=0:=by omega
 have h2:F'*S%18446744073709551616=F'*S:=by omega
 have h3:=Nat.div_le_self (F'*S) I'
 have e:(F':Int)*(S:Int) / (I':Int)=((F'*S / I':Nat):Int):=by rw [Int.natCast_ediv,Int.natCast_mul]
 rw [e]
 obtain ⟨q,hq⟩:∃q,q=F'*S / I':=⟨_,rfl⟩
 obtain ⟨p,hpq⟩:∃p,p=F'*S:=⟨_,rfl⟩
 rw [←hq] at h3 ⊢
 rw [←hpq] at h1 h2 h3 hp
 refine aOg rfl ?_
 unfold aCw
 refine oy ?_
 repeat' (first|refine aD (d:=some 13) (.int .u64 (F':Nat)) rfl (congrArg (fun n=>some (Value.int .u64 n)) (bMu (by omega))) ?_|refine aD (d:=some 15) (.int .u64 (S:Nat)) rfl (congrArg (fun n=>some (Value.int .u64 n)) (bMu (by omega))) ?_|refine aD (d:=some 23) (.int .u64 (I':Nat)) rfl (congrArg (fun n=>some (Value.int .u64 n)) (bMu (by omega))) ?_|refine aD (d:=some 28) (.int .i64 (q:Nat)) rfl (congrArg (fun n=>some (Value.int .i64 n)) (IntWalk.i64_in _ (by omega))) ?_|refine go1 ?_|refine zg λ_ _=>?_|refine zi λ_ _=>?_|(refine zC (d:=some 16) rfl (bFf F' S (by omega) (by omega) _) ?_;rintro _ w3 ⟨rfl,x3⟩;rw [←hpq,h1,h2])|(refine zC (d:=some 24) rfl (bFj p I' hI.1 (by omega) _) ?_;rintro _ w4 ⟨rfl,x4⟩;rw [show p / I'=q by rw [hq,hpq]]))
 exact aA rfl ⟨rfl,by exact fx⟩
theorem aX3 (S:Nat) (f z:Int) (hS:S≤1000000) (hp:iW f z=true) (hf:f≤1000000000000) (w:World):K.Spec Tryz.prog F.replace_above [.int .i64 (S:Nat),.int .i64 f,.int .i64 z] w fun r w'=>r=.int .i64 (f*(S:Nat) / z+1)∧Ext w w':=by
 obtain ⟨F',I',rfl,rfl,b1,b2,b3⟩:=aY7 hp
 exact aWn S F' I' hS (by omega) ⟨by omega,b3⟩ w
theorem aA6 (R' S:Nat) (hR:R'≤100000000) (hS:S≤1000000) (w:World):K.Spec Tryz.prog F.amount_Fee [.int .i64 (R':Nat),.int .i64 (S:Nat)] w fun r w'=>r=.tuple #[.int .i64 (((R'*S+999) / 1000:Nat):Int),.int .i64 0]∧Ext w w':=by
 have hp:R'*S≤100000000*1000000:=Nat.mul_le_mul hR hS
 refine aW9 rfl ?_
 unfold aK0
 refine oy ?_
 repeat' (first|refine zF (d:=some 7) (v:=.bool true) ((qF _ _ _).trans (by rw [dTr (by omega)])) ?_|refine aD (d:=some 16) (.int .i64 ((R'*S:Nat):Int)) rfl (congrArg (fun n=>some (Value.int .i64 n)) (IntWalk.i64_in _ (by omega))) ?_|refine aD (d:=some 18) (.int .i64 ((R'*S+999:Nat):Int)) rfl (congrArg (fun n=>some (Value.int .i64 n)) ((IntWalk.i64_in _ (by omega)).trans (by omega))) ?_|refine bKo (d:=some 19) (n:=R'*S+999) (m:=1000) rfl rfl (by omega) (by omega) ?_|(apply zO;focus((conv=>lhs;whnf)<;>(first|with_reducible exact rfl|(refine congrArg Value.bool ?_;decide))))|refine zF (d:=some 11) (v:=.bool true) ((qF _ _ _).trans (by rw [dTr (by omega)])) ?_|refine go1 ?_|refine zg λ_ _=>?_|refine zi λ_ _=>?_)
 exact aA rfl ⟨rfl,by exact fx⟩
set_option maxHeartbeats 2000000 in
theorem aE9 {g:Nat} {M N:List Nat} {l:List Ent} {cs:List Value} {t:Tx} (w:World) (hG:GrR w g M l) (hM:∀b∈M,b<w.heap.size) (ht:txR.rel N w cs t) (hs:t.Sm) (hl:l.length≤1000) (hf:∀x∈l,x.fee≤1000000000000):
  K.Spec Tryz.prog F.replace_Need [.pointer (some ⟨g,0,none⟩),.agg cs.toArray] w fun r w'=>r=.tuple #[.int .i64 (gY l t),.int .i64 (gT l t)]∧Ext w w':=by
 have hnd:=hG.nodup
 have hE:=hG.ok
 have ht0:=ht
 obtain ⟨iv,ov,rfl,hi,ho,hv⟩:=ht
 by_cases hc:aE t=0
 ·have hz:=cB hs hc
  have hz2:=hz.sizeM
  have e0:kQ t=.tuple #[.int .i64 (aO t:Nat),.int .i64 0]:=by rw [kQ,if_pos hc]
  obtain ⟨ids,hids⟩:∃ids,ids=aK l (bV l t):=⟨_,rfl⟩
  have hil:ids.length≤l.length:=by rw [hids];exact mF _ _
  have hel:=mF l (evL l t)
  have hfee:kI l (aK l (evL l t))=zY l t:=by rw [bJa hnd];rfl
  have hgb:=aQx (t:=t) (c:=1000000000000) (fun x hx=>⟨((bN _).1 (hE x hx).fee).1,hf x hx⟩)
  have hgb2:((1000000000000:Nat):Int)*l.length≤1000000000000*1000:=by omega
  have hone:(1000*aO t+999) / 1000=aO t:=by omega
  have hconf:ids.length=0↔l.any (gJ t)=false:=by rw [hids];exact aAp
  have hnl:fY l t=jH l (aO t:Nat) (zY l t+(aO t:Nat)) ids:=by rw [hids];unfold fY;rfl
  have n0:jH l (aO t:Nat) (zY l t+(aO t:Nat)) (ids.take 0)=zY l t+(aO t:Nat):=by rw [List.take_zero];unfold jH;rfl
  have hin:∀s∈ids,dV l s∈l:=fun s hs=>by
   rw [hids] at hs
   obtain ⟨x,hx,_,rfl⟩:=sZ.1 hs
   rw [(get_mem hnd hx).2];exact hx
  refine aD3 rfl ?_
  unfold vY
  refine oy ?_
  repeat' (first|refine go1 ?_|refine zg λ_ _=>?_|refine zi λ_ _=>?_|refine zD (d:=some 3) rfl rfl (fun bt wt xt bt' (rt:Row wt ⟨bt,0,none⟩ (aJ t iv ov)) hbt0=>?_)|(refine zC (d:=some 22) rfl (fZ (M:=N) (cs:=aJ t iv ov) (t:=t) _ (R.ext ht0 (by exact fx)) hs) ?_;rintro _ w3 ⟨rfl,x3⟩;rw [e0])|(refine zC (d:=some 30) rfl (gX (M:=M) (N:=N) (l:=l) (cs:=aJ t iv ov) (t:=t) _ (hG.ext (by exact fx)) (fun b hb=>nLt (hM b hb) (Ext.size (by exact fx))) (R.ext ht0 (by exact fx)) hs.ins hl) ?_;rw [←hids];rintro vc w4 ⟨oc,x4⟩;have sc:=oc.sl)|refine aY (E:=bL) (l:=ids) rfl (SlE.ext (by exact fx) sc) ?_|refine zL rfl (fun h=>?_) (fun h=>?_)|(refine zC (d:=some 38) rfl (jU (M:=M) (N:=N) (l:=l) (cs:=aJ t iv ov) (t:=t) _ (hG.ext (by exact fx)) (fun b hb=>nLt (hM b hb) (Ext.size (by exact fx))) (R.ext ht0 (by exact fx)) hs.ins hl) ?_;rintro vg w5 ⟨og,x5⟩;have sg:=og.sl)|(refine zC (d:=some 39) rfl (aVe (M:=M) (l:=l) (ids:=aK l (evL l t)) _ (hG.ext (by exact fx)) (fun b hb=>nLt (hM b hb) (Ext.size (by exact fx))) (SlE.ext (by exact fx) sg) (by omega)) ?_;rintro _ w6 ⟨rfl,x6⟩;rw [hfee])|(refine zC (d:=some 44) rfl (aA6 1000 (aO t) (by decide) hz2.2 _) ?_;rintro _ w7 ⟨rfl,x7⟩;rw [hone])|(refine aI (fun (i:Nat) w'=>Ext w7 w'∧i≤ids.length) (fun i=> [(0,.pointer (some ⟨g,0,none⟩)),(6,.int .i64 (aO t:Nat)),(13,.int .i64 (jH l (aO t:Nat) (zY l t+(aO t:Nat)) (ids.take i))),(50,vc),(51,.int .i64 (ids.length:Nat)),(52,.int .i64 i)]) (fun i=>ids.length - i) 0 ⟨rfl,rfl,by rw [n0];rfl,rfl,rfl,rfl,trivial⟩ ⟨Ext.refl _,by simp⟩ ?_;rintro i ρ w8 ⟨x8,hi8⟩)|(have hii:i<ids.length:=(by omega);refine aS (d:=some 54) (E:=bL) rfl rfl (n:=i) (l:=ids) (SlE.ext (by exact fx) sc) rfl hii (fun ad r9=>?_);have r9:Row _ ad [Value.string ids[i]]:=r9)|(refine zC (d:=some 59) rfl (lQ (M:=M) ids[i] _ (hG.ext (by exact fx)) (fun b hb=>nLt (hM b hb) (Ext.size (by exact fx)))) ?_;rintro v5 w10 ⟨ds,rfl,e5,x10⟩;have hmem:=hin _ (gMe hii);have hpr:=aIw (hE _ hmem);have hff:=hf _ hmem;generalize hX:dV l ids[i]=X at*;obtain ⟨iv2,ov2,rfl,o1,o2,o3⟩:=e5;have i1:=o1.one;have i2:=o2.one)|refine zE (d':=16) (fun _=>rfl) rfl rfl (by simp [bC,i1,i2];exact ⟨rfl,rfl,rfl,rfl,rfl⟩) (fun b6 w11 x11 a11 (r11:Row w11 ⟨b6,0,none⟩ (bC X iv2 ov2)) hb6=>?_))
  ·have h0:l.any (gJ t)=false:=hconf.1 (by omega)
   have e1:gY l t=0:=by rw [gY,if_neg (by simpa using hc),if_pos h0]
   have e2:gT l t=0:=by rw [gT,if_neg (by simpa using hc),if_pos h0]
   rw [e1,e2]
   exact aA rfl ⟨rfl,by exact fx⟩
  ·repeat' (first|refine aQj (d:=some 69) rfl rfl ?_|refine go1 ?_|refine zg λ_ _=>?_|refine zi λ_ _=>?_|(refine zC (d:=some 68) rfl (aX3 (aO t) X.fee X.size hz2.2 hpr hff _) ?_;rintro _ w12 ⟨rfl,x12⟩))
   refine ⟨i+1,⟨rfl,rfl,?_,rfl,rfl,rfl,trivial⟩,⟨by exact fx,by omega⟩,by omega⟩
   show _=Value.int .i64 (jH l (aO t:Nat) (zY l t+(aO t:Nat)) (ids.take (i+1)))
   rw [bJn hii,hX];rfl
  ·have ei:i=ids.length:=by omega
   subst ei
   rw [tLe (Nat.le_refl _),←hnl]
   have h1:l.any (gJ t)=true:=by
    cases h9:l.any (gJ t) with
    |false=>exact absurd (hconf.2 h9) (by omega)
    |true=>rfl
   cases hg9:cD (fY l t) with
   |false=>
    have e1:gY l t=0:=by rw [gY,if_neg (by simpa using hc),if_neg (by rw [h1];simp),if_neg (by rw [hg9];simp)]
    have e2:gT l t=3:=by rw [gT,if_neg (by simpa using hc),if_neg (by rw [h1];simp),if_neg (by rw [hg9];simp)]
    rw [e1,e2]
    repeat' (first|refine go1 ?_|refine zg λ_ _=>?_|refine zi λ_ _=>?_)
    exact aA rfl ⟨rfl,by exact fx⟩
   |true=>
    have e1:gY l t=fY l t:=by rw [gY,if_neg (by simpa using hc),if_neg (by rw [h1];simp),if_pos hg9]
    have e2:gT l t=0:=by rw [gT,if_neg (by simpa using hc),if_neg (by rw [h1];simp),if_pos hg9]
    rw [e1,e2]
    repeat' (first|refine go1 ?_|refine zg λ_ _=>?_|refine zi λ_ _=>?_)
    exact aA rfl ⟨rfl,by exact fx⟩
 ·have e0:kQ t=.tuple #[.int .i64 0,.int .i64 (aE t)]:=by rw [kQ,if_neg hc]
  have e1:gY l t=0:=by rw [gY,if_pos hc]
  have e2:gT l t=aE t:=by rw [gT,if_pos hc]
  rw [e1,e2]
  refine aD3 rfl ?_
  unfold vY
  refine oy ?_
  repeat' (first|refine go1 ?_|refine zg λ_ _=>?_|refine zi λ_ _=>?_|refine zD (d:=some 3) rfl rfl (fun bt wt xt bt' (rt:Row wt ⟨bt,0,none⟩ (aJ t iv ov)) hbt0=>?_)|(refine zC (d:=some 22) rfl (fZ (M:=N) (cs:=aJ t iv ov) (t:=t) _ (R.ext ht0 (by exact fx)) hs) ?_;rintro _ w3 ⟨rfl,x3⟩;rw [e0])|refine zN (p:=aE t=0) rfl (fun _=>?_) (fun h=>absurd h hc))
  exact aA rfl ⟨rfl,by exact fx⟩
end
section
open Go Go.K
attribute [local irreducible] aF aP bG KOp.wp K.Spec u32 leS vnS str aR
def aEr (y:TOut):Bool:=decide ((y.s.size:Int)≤40)
theorem aQ4 (y:TOut) (hs:y.s.size≤1000000) (w:World):K.Spec Tryz.prog F.dust_Size [.agg (iI y).toArray] w fun r w'=>r=.tuple #[.int .i64 (if aEr y then (aGz y:Nat) else 0),.int .i64 (if aEr y then 0 else 20)]∧Ext w w':=by
 have h9:=fH y.s.size
 refine aXs rfl ?_
 unfold aN8
 refine oy ?_
 repeat' (first|refine zD rfl rfl (fun bp wp xp ap (rp:Row wp ⟨bp,0,none⟩ (iI y)) hp0=>?_)|refine zL (p:=((y.s.size:Nat):Int)>40) rfl (fun h=>?_) (fun h=>?_)|refine aD (d:=some 11) (.int .u64 (y.s.size:Nat)) rfl (congrArg (fun n=>some (Value.int .u64 n)) (fT (by omega) (by omega))) ?_|(refine zC (d:=some 12) rfl (aVi y.s.size (by omega) _) ?_;rintro _ w3 ⟨rfl,x3⟩)|refine go1 ?_|refine zg λ_ _=>?_|refine zi λ_ _=>?_)
 ·have e:aEr y=false:=dFa (by omega)
  rw [e]
  exact aA rfl ⟨rfl,by exact fx⟩
 ·have e:aEr y=true:=dTr (by omega)
  rw [e]
  exact aA rfl ⟨congrArg (fun z=>Value.tuple #[.int .i64 z,.int .i64 0]) (by simp only [aGz,if_true];omega),by exact fx⟩
theorem aN3 (y:TOut) (hs:y.s.size≤1000000) (w:World):K.Spec Tryz.prog F.dust_Least [.agg (iI y).toArray] w fun r w'=>r=.tuple #[.int .i64 (if aEr y then ((3000*(aGz y+67)+999) / 1000:Nat) else 0),.int .i64 (if aEr y then 0 else 20)]∧Ext w w':=by
 have h9:=fH y.s.size
 refine aV2 rfl ?_
 unfold aIg
 refine oy ?_
 cases he:aEr y with
 |false=>
  repeat' (first|refine zD rfl rfl (fun bp wp xp ap (rp:Row wp ⟨bp,0,none⟩ (iI y)) hp0=>?_)|(refine zC (d:=some 8) rfl (aQ4 y hs _) ?_;rintro _ w3 ⟨rfl,x3⟩;rw [he])|refine go1 ?_|refine zg λ_ _=>?_|refine zi λ_ _=>?_)
  exact aA rfl ⟨rfl,by exact fx⟩
 |true=>
  have h40:y.s.size≤40:=by have:=of_decide_eq_true he;omega
  have hz:aGz y≤1000:=by unfold aGz;omega
  repeat' (first|refine zD rfl rfl (fun bp wp xp ap (rp:Row wp ⟨bp,0,none⟩ (iI y)) hp0=>?_)|(refine zC (d:=some 8) rfl (aQ4 y hs _) ?_;rintro _ w3 ⟨rfl,x3⟩;rw [he])|(refine zC (d:=some 16) (congrArg (fun z=> [Value.int .i64 3000,Value.int .i64 z]) (show ((aGz y:Nat):Int)+67=((aGz y+67:Nat):Int) by omega)) (aA6 3000 (aGz y+67) (by decide) (by omega) _) ?_;rintro _ w4 ⟨rfl,x4⟩)|refine go1 ?_|refine zg λ_ _=>?_|refine zi λ_ _=>?_)
  exact aA rfl ⟨rfl,by exact fx⟩
theorem bOi:cK Tryz.prog F.dust_Dust=true:=by kernel_rfl
theorem bG3 (y:TOut) (hs:y.s.size≤1000000) (w:World):K.Spec Tryz.prog F.dust_Dust [.agg (iI y).toArray] w fun r w'=>r=.bool (aQm y)∧Ext w w':=by
 refine aYa rfl ?_
 unfold aNe
 refine oy ?_
 cases he:aEr y with
 |false=>
  have e:aQm y=false:=by unfold aQm;rw [show decide ((y.s.size:Int)≤40)=false from he];rfl
  rw [e]
  repeat' (first|refine zD rfl rfl (fun bp wp xp ap (rp:Row wp ⟨bp,0,none⟩ (iI y)) hp0=>?_)|(refine zC (d:=some 7) rfl (aN3 y hs _) ?_;rintro _ w3 ⟨rfl,x3⟩;rw [he])|refine go1 ?_|refine zg λ_ _=>?_|refine zi λ_ _=>?_)
  exact aA rfl ⟨rfl,by exact fx⟩
 |true=>
  have e:aQm y=decide (y.v<(((3000*(aGz y+67)+999) / 1000:Nat):Int)):=by unfold aQm;rw [show decide ((y.s.size:Int)≤40)=true from he];rfl
  rw [e]
  repeat' (first|refine zD rfl rfl (fun bp wp xp ap (rp:Row wp ⟨bp,0,none⟩ (iI y)) hp0=>?_)|(refine zC (d:=some 7) rfl (aN3 y hs _) ?_;rintro _ w3 ⟨rfl,x3⟩;rw [he])|refine go1 ?_|refine zg λ_ _=>?_|refine zi λ_ _=>?_)
  exact aA rfl ⟨rfl,by exact fx⟩
theorem aP0 {M:List Nat} {cs:List Value} {t:Tx} (w:World) (ht:txR.rel M w cs t) (hs:t.Sm) (hq:∀y∈t.outs,y.s.size≤1000000):K.Spec Tryz.prog F.dust_First [.agg cs.toArray] w fun r w'=>r=.tuple #[.int .i64 (max (jN t) 0),.bool (decide (jN t≥0))]∧Ext w w':=by
 obtain ⟨iv,ov,rfl,hi,ho,hv,hl⟩:=ht
 have g:=hs.outs
 have tl:∀w1,Ext w w1→sL F.dust_Dust [] fS (fun cs=>.agg cs.toArray) M w1 t.outs aQm:=fun w1 x1 y hy w' cs x2 hc=>by
  obtain ⟨rfl,_⟩:=hc
  exact bG3 y (hq y hy) w'
 refine aWo rfl ?_
 unfold aI2
 refine oy ?_
 repeat' (first|refine zD rfl rfl (fun bp wp xp ap (rp:Row wp ⟨bp,0,none⟩ (aJ t iv ov)) hp0=>?_)|(refine zC (d:=some 7) rfl (aN4 (l:=t.outs) (M:=M) (g:=F.dust_Dust) (capl:= []) _ bOi (SlR.ext ho (by exact fx)) (by omega) (tl _ (by exact fx))) ?_;rintro _ w2 ⟨rfl,x2⟩)|refine aQj (d:=some 9) (a:=jN t) (b:=0) rfl rfl ?_|refine go1 ?_|refine zg λ_ _=>?_|refine zi λ_ _=>?_)
 exact aA rfl ⟨rfl,by exact fx⟩
theorem bHe (a b:Int) (ha:cD a=true) (hb:cD b=true) (h:b≤a) (w:World):K.Spec Tryz.prog F.amount_Sub [.int .i64 a,.int .i64 b] w fun r w'=>r=.tuple #[.int .i64 (a - b),.int .i64 0]∧Ext w w':=by
 have h1:=(bN a).1 ha
 have h2:=(bN b).1 hb
 refine aV5 rfl ?_
 unfold aI9
 refine oy ?_
 repeat' (first|refine zF (d:=some 7) (v:=.bool true) ((qG _).trans (by rw [ha])) ?_|refine zF (d:=some 11) (v:=.bool true) ((qG _).trans (by rw [hb])) ?_|refine zL (p:=b>a) rfl (fun h=>absurd h (by omega)) (fun _=>?_)|refine go1 ?_|refine zg λ_ _=>?_|refine zi λ_ _=>?_)
 exact aA rfl ⟨rfl,Ext.refl _⟩
end
section
open Go Go.K
attribute [local irreducible] aF aP bG KOp.wp K.Spec u32 leS vnS str aR dE bS idT aO aE aQ idN bB cH bY bT cE eO bF cI aK kI fP qT mQ bV evL inS inB jH fY jR gY gT nU gC
theorem aUs:cK Tryz.prog F.replace_Rules_1=true:=by kernel_rfl
theorem aNx {g b2:Nat} {M:List Nat} {l:List Ent} (s:ByteArray) (w:World) (hG:GrR w g M l) (hM:∀b∈M,b<w.heap.size) (hl:l.length≤1000) (hr:Row w ⟨b2,0,none⟩ [.pointer (some ⟨g,0,none⟩)]):
  K.Spec Tryz.prog F.replace_Rules_1 [.string s,.pointer (some ⟨b2,0,none⟩)] w fun r w'=>r=.bool (!nU l (dV l s))∧Ext w w':=by
 refine aJx rfl ?_
 unfold xO
 refine oy ?_
 repeat' (first|refine go1 ?_|refine zg λ_ _=>?_|refine zi λ_ _=>?_|(refine zC (d:=some 6) rfl (bI2 (M:=M) (l:=l) s _ (hG.ext (by exact fx)) (fun b hb=>nLt (hM b hb) (Ext.size (by exact fx))) hl) ?_;rintro _ w5 ⟨rfl,x5⟩))
 exact aA rfl ⟨rfl,by exact fx⟩
theorem bOt {l:List Ent} {t:Tx} (h:l.any (gJ t)=false):(l.any fun x=>gJ t x&&!nU l x)=false:=by
 rw [List.any_eq_false] at h ⊢
 intro x hx h2
 rw [Bool.and_eq_true] at h2
 exact h x hx h2.1
set_option maxHeartbeats 4000000 in
theorem aP6 {g : Nat} {M N : List Nat} {l : List Ent} {cs : List Value} {t : Tx} (fee : Int) (w : World) (hG : GrR w g M l) (hM : ∀ b ∈ M, b < w.heap.size) (ht : txR.rel N w cs t) (hs : t.Sm) (hl : l.length ≤ 1000) (hf : ∀ x ∈ l, x.fee ≤ 1000000000000) :
    K.Spec Tryz.prog F.replace_Rules [.pointer (some ⟨g, 0, none⟩), .agg cs.toArray, .int .i64 fee] w fun r w' => r = .int .i64 (dN l t fee) ∧ Ext w w' := by
  have hnd := hG.nodup
  have hE := hG.ok
  have hlc := mF l (bV l t)
  have hle := mF l (evL l t)
  have ht0 := ht
  obtain ⟨iv, ov, rfl, hi, ho, hv⟩ := ht
  by_cases hc : aE t = 0
  · have e0 : kQ t = .tuple #[.int .i64 (aO t : Nat), .int .i64 0] := by rw [kQ, if_pos hc]
    have hz := (cB hs hc).sizeM
    cases hgf : cD fee with
    | false =>
      have e : dN l t fee = 3 := by rw [dN, if_neg (by simpa using hc), if_pos hgf]
      rw [e]
      obtain ⟨nN, hnN⟩ : ∃ n, gY l t = n := ⟨_, rfl⟩
      obtain ⟨nE, hnE⟩ : ∃ n, gT l t = n := ⟨_, rfl⟩
      refine kF rfl ?_
      unfold iE
      refine oy ?_
      repeat' (first|refine dJ (b := .cons ⟨some 39, _, _⟩ _) (fun (vc : Value) w' => Ext w4 w' ∧ Own bL T.string w4.heap.size w' vc (aK l (bV l t))) (fun vc => [(2, .int .i64 fee), (3, .pointer (some ⟨bg, 0, none⟩)), (4, .pointer (some ⟨bt, 0, none⟩)), (9, .int .i64 nN), (36, vc), (37, .pointer (some ⟨g, 0, none⟩)), (38, .agg (aJ t iv ov).toArray)]) ?_ ?_|(rintro vc ρ7 w7 ⟨x7, oc⟩; have sc := oc.sl; try dsimp only)|(exact ⟨v6, ⟨rfl, rfl, rfl, rfl, rfl, rfl, rfl, trivial⟩, by exact fx, Own.lower (Own.ext (by exact fx) o6) (Ext.size (by exact fx))⟩)|refine zF (d := some 32) (v := .bool false) ((qG _).trans (by rw [hgf])) ?_|refine go1 ?_|refine zg λ_ _=>?_|refine zi λ_ _=>?_|refine zD (d := some 3) rfl rfl (fun bg wg xg bg' (rg : Row wg ⟨bg, 0, none⟩ [.pointer (some ⟨g, 0, none⟩)]) hbg0=>?_)|refine zD (d := some 4) rfl rfl (fun bt wt xt bt' (rt : Row wt ⟨bt, 0, none⟩ (aJ t iv ov)) hbt0=>?_)|(refine zC (d := some 17) rfl (fZ (M := N) (cs := aJ t iv ov) (t := t) _ (R.ext ht0 (by exact fx)) hs) ?_; rintro _ w3 ⟨rfl, x3⟩; rw [e0])|(refine zC (d := some 26) rfl (aE9 (M := M) (N := N) (l := l) (cs := aJ t iv ov) (t := t) _ (hG.ext (by exact fx)) (fun b hb => nLt (hM b hb) (Ext.size (by exact fx))) (R.ext ht0 (by exact fx)) hs hl hf) ?_; rintro _ w4 ⟨rfl, x4⟩; rw [hnN, hnE])|refine fD ?_ ?_|(refine zC (d := some 36) rfl (gX (M := M) (N := N) (l := l) (cs := aJ t iv ov) (t := t) _ (hG.ext (by exact fx)) (fun b hb => nLt (hM b hb) (Ext.size (by exact fx))) (R.ext ht0 (by exact fx)) hs.ins hl) ?_; rintro v6 w6 ⟨o6, x6⟩)|(refine zC (d := some 39) rfl (jU (M := M) (N := N) (l := l) (cs := aJ t iv ov) (t := t) _ (hG.ext (by exact fx)) (fun b hb => nLt (hM b hb) (Ext.size (by exact fx))) (R.ext ht0 (by exact fx)) hs.ins hl) ?_; rintro vg w8 ⟨og, x8⟩; have sg := og.sl)|refine aY (d := some 42) (E := bL) (l := aK l (bV l t)) rfl (SlE.ext (by exact fx) sc) ?_)
      repeat' (first|refine zF (d := some 32) (v := .bool false) ((qG _).trans (by rw [hgf])) ?_|refine go1 ?_|refine zg λ_ _=>?_|refine zi λ_ _=>?_|refine zN (p := nE = 0) rfl (fun _ => ?_) (fun _ => ?_))
      all_goals exact aA rfl ⟨rfl, by exact fx⟩
    | true =>
      cases hh : l.any (gJ t) with
      | false =>
        have e : dN l t fee = 0 := by rw [dN, if_neg (by simpa using hc), if_neg (by rw [hgf]; simp), if_neg (by rw [bOt hh]; simp), if_pos hh]
        rw [e]
        have hnN : gY l t = 0 := by unfold gY; rw [if_neg (by simpa using hc), if_pos hh]
        have hnE : gT l t = 0 := by unfold gT; rw [if_neg (by simpa using hc), if_pos hh]
        have hlen : (aK l (bV l t)).length = 0 := aAp.2 hh
        refine kF rfl ?_
        unfold iE
        refine oy ?_
        repeat' (first|refine dJ (b := .cons ⟨some 39, _, _⟩ _) (fun (vc : Value) w' => Ext w4 w' ∧ Own bL T.string w4.heap.size w' vc (aK l (bV l t))) (fun vc => [(2, .int .i64 fee), (3, .pointer (some ⟨bg, 0, none⟩)), (4, .pointer (some ⟨bt, 0, none⟩)), (9, .int .i64 0), (36, vc), (37, .pointer (some ⟨g, 0, none⟩)), (38, .agg (aJ t iv ov).toArray)]) ?_ ?_|(rintro vc ρ7 w7 ⟨x7, oc⟩; have sc := oc.sl; try dsimp only)|(exact ⟨v6, ⟨rfl, rfl, rfl, rfl, rfl, rfl, rfl, trivial⟩, by exact fx, Own.lower (Own.ext (by exact fx) o6) (Ext.size (by exact fx))⟩)|refine zF (d := some 32) (v := .bool true) ((qG _).trans (by rw [hgf])) ?_|refine go1 ?_|refine zg λ_ _=>?_|refine zi λ_ _=>?_|refine zD (d := some 3) rfl rfl (fun bg wg xg bg' (rg : Row wg ⟨bg, 0, none⟩ [.pointer (some ⟨g, 0, none⟩)]) hbg0=>?_)|refine zD (d := some 4) rfl rfl (fun bt wt xt bt' (rt : Row wt ⟨bt, 0, none⟩ (aJ t iv ov)) hbt0=>?_)|(refine zC (d := some 17) rfl (fZ (M := N) (cs := aJ t iv ov) (t := t) _ (R.ext ht0 (by exact fx)) hs) ?_; rintro _ w3 ⟨rfl, x3⟩; rw [e0])|(refine zC (d := some 26) rfl (aE9 (M := M) (N := N) (l := l) (cs := aJ t iv ov) (t := t) _ (hG.ext (by exact fx)) (fun b hb => nLt (hM b hb) (Ext.size (by exact fx))) (R.ext ht0 (by exact fx)) hs hl hf) ?_; rintro _ w4 ⟨rfl, x4⟩; rw [hnN, hnE])|refine fD ?_ ?_|(refine zC (d := some 36) rfl (gX (M := M) (N := N) (l := l) (cs := aJ t iv ov) (t := t) _ (hG.ext (by exact fx)) (fun b hb => nLt (hM b hb) (Ext.size (by exact fx))) (R.ext ht0 (by exact fx)) hs.ins hl) ?_; rintro v6 w6 ⟨o6, x6⟩)|(refine zC (d := some 39) rfl (jU (M := M) (N := N) (l := l) (cs := aJ t iv ov) (t := t) _ (hG.ext (by exact fx)) (fun b hb => nLt (hM b hb) (Ext.size (by exact fx))) (R.ext ht0 (by exact fx)) hs.ins hl) ?_; rintro vg w8 ⟨og, x8⟩; have sg := og.sl)|refine aY (d := some 42) (E := bL) (l := aK l (bV l t)) rfl (SlE.ext (by exact fx) sc) ?_)
        refine zL rfl (fun _ => ?_) (fun h => absurd (show (((aK l (bV l t)).length : Nat) : Int) = 0 by omega) h)
        repeat' (first|refine go1 ?_|refine zg λ_ _=>?_|refine zi λ_ _=>?_)
        exact aA rfl ⟨rfl, by exact fx⟩
      | true =>
        have hlen : (aK l (bV l t)).length ≠ 0 := fun h => by rw [aAp.1 h] at hh; cases hh
        have hpr : bEb l := fun x hx => aIw (hE x hx)
        have hfp : iW fee (aO t : Nat) = true := by unfold iW; rw [hgf, Bool.true_and]; exact dTr (by omega)
        have hgb := (aQx (t := t) (c := 1000000000000) (fun x hx => ⟨((bN _).1 (hE x hx).fee).1, hf x hx⟩)).1
        have hnp := bJi (l := l) (t := t) hgb hz.1
        obtain ⟨nv, hnv⟩ : ∃ nv, nv = if cD (fY l t) = true then fY l t else 2100000000000001 := ⟨_, rfl⟩
        have hR : dN l t fee = if (l.any fun x => gJ t x && !nU l x) = true then 15 else if (aK l (evL l t)).length > 100 then 15 else if gC l t = true then 15 else if fee < nv then 11 else 0 := by
          rw [bEy hnd hpr hh hfp hnv (by omega), dN, if_neg (by simpa using hc), if_neg (by rw [hgf]; simp)]
          split
          · rfl
          · rw [if_neg (by rw [hh]; simp)]
        cases hgn : cD (fY l t) with
        | false =>
          rw [if_neg (by rw [hgn]; simp)] at hnv
          have hnN : gY l t = 0 := by unfold gY; rw [if_neg (by simpa using hc), if_neg (by rw [hh]; simp), if_neg (by rw [hgn]; simp)]
          have hnE : gT l t = 3 := by unfold gT; rw [if_neg (by simpa using hc), if_neg (by rw [hh]; simp), if_neg (by rw [hgn]; simp)]
          refine kF rfl ?_
          unfold iE
          refine oy ?_
          repeat' (first|refine dJ (b := .cons ⟨some 39, _, _⟩ _) (fun (vc : Value) w' => Ext w4 w' ∧ Own bL T.string w4.heap.size w' vc (aK l (bV l t))) (fun vc => [(2, .int .i64 fee), (3, .pointer (some ⟨bg, 0, none⟩)), (4, .pointer (some ⟨bt, 0, none⟩)), (9, .int .i64 2100000000000001), (36, vc), (37, .pointer (some ⟨g, 0, none⟩)), (38, .agg (aJ t iv ov).toArray)]) ?_ ?_|(rintro vc ρ7 w7 ⟨x7, oc⟩; have sc := oc.sl; try dsimp only)|(exact ⟨v6, ⟨rfl, rfl, rfl, rfl, rfl, rfl, rfl, trivial⟩, by exact fx, Own.lower (Own.ext (by exact fx) o6) (Ext.size (by exact fx))⟩)|refine zF (d := some 32) (v := .bool true) ((qG _).trans (by rw [hgf])) ?_|refine go1 ?_|refine zg λ_ _=>?_|refine zi λ_ _=>?_|refine zD (d := some 3) rfl rfl (fun bg wg xg bg' (rg : Row wg ⟨bg, 0, none⟩ [.pointer (some ⟨g, 0, none⟩)]) hbg0=>?_)|refine zD (d := some 4) rfl rfl (fun bt wt xt bt' (rt : Row wt ⟨bt, 0, none⟩ (aJ t iv ov)) hbt0=>?_)|(refine zC (d := some 17) rfl (fZ (M := N) (cs := aJ t iv ov) (t := t) _ (R.ext ht0 (by exact fx)) hs) ?_; rintro _ w3 ⟨rfl, x3⟩; rw [e0])|(refine zC (d := some 26) rfl (aE9 (M := M) (N := N) (l := l) (cs := aJ t iv ov) (t := t) _ (hG.ext (by exact fx)) (fun b hb => nLt (hM b hb) (Ext.size (by exact fx))) (R.ext ht0 (by exact fx)) hs hl hf) ?_; rintro _ w4 ⟨rfl, x4⟩; rw [hnN, hnE])|refine fD ?_ ?_|(refine zC (d := some 36) rfl (gX (M := M) (N := N) (l := l) (cs := aJ t iv ov) (t := t) _ (hG.ext (by exact fx)) (fun b hb => nLt (hM b hb) (Ext.size (by exact fx))) (R.ext ht0 (by exact fx)) hs.ins hl) ?_; rintro v6 w6 ⟨o6, x6⟩)|(refine zC (d := some 39) rfl (jU (M := M) (N := N) (l := l) (cs := aJ t iv ov) (t := t) _ (hG.ext (by exact fx)) (fun b hb => nLt (hM b hb) (Ext.size (by exact fx))) (R.ext ht0 (by exact fx)) hs.ins hl) ?_; rintro vg w8 ⟨og, x8⟩; have sg := og.sl)|refine aY (d := some 42) (E := bL) (l := aK l (bV l t)) rfl (SlE.ext (by exact fx) sc) ?_)
          have sc8 := SlE.ext x8 sc
          have rg8 : Row w8 ⟨bg, 0, none⟩ [.pointer (some ⟨g, 0, none⟩)] := rg.ext (by exact fx)
          have rt8 : Row w8 ⟨bt, 0, none⟩ (aJ t iv ov) := rt.ext (by exact fx)
          have y08 : Ext w w8 := by exact fx
          have G8 := hG.ext y08
          have t8 := R.ext ht0 y08
          have hM8 : ∀ b ∈ M, b < w8.heap.size := fun b hb => nLt (hM b hb) y08.size
          have x08 : Unit → Ext w w8 := fun _ => y08
          clear y08
          have scR : SlR pP [] w8 vc (aK l (bV l t)) := SlE.toR (F := bL) (ag := false) sc8 (by simp)
          have tl : ∀ w1, Ext w8 w1 → sL F.replace_Rules_1 [.pointer (some ⟨bg, 0, none⟩)] pP (fun cs => cs.headD undef) [] w1 (aK l (bV l t)) (fun s => !nU l (dV l s)) := fun w1 x1 x hx w' cs x2 hc => by
            obtain rfl : cs = [Value.string x] := hc
            exact aNx (M := M) x w' (G8.ext (x1.trans x2)) (fun b hb => nLt (hM8 b hb) (x1.trans x2).size) hl (rg8.ext (x1.trans x2))
          clear oc og x8 x7 x4 x3 xt xg rg rt hG ht0 bg' bt' sc
          repeat' (first|refine go1 ?_|refine zg λ_ _=>?_|refine zi λ_ _=>?_|(refine zL (p := (((aK l (bV l t)).length : Nat) : Int) = 0) rfl (fun h => absurd h (by omega)) (fun _ => ?_))|(refine zC (d := some 47) rfl (aB3 (l := aK l (bV l t)) (M := []) (g := F.replace_Rules_1) (capl := [_]) _ aUs (SlR.ext scR (by exact fx)) (by omega) (tl _ (by exact fx))) ?_; rintro _ w9 ⟨rfl, x9⟩; rw [aZi hnd])|refine zM rfl (fun h => ?_) (fun h => ?_)|refine aY (d := some 50) (E := bL) (l := aK l (evL l t)) rfl (SlE.ext (by exact fx) sg) ?_|(refine zJ (p := (((aK l (evL l t)).length : Nat) : Int) > 100) rfl (fun h => ?_) (fun h => ?_))|(refine zC (d := some 57) rfl (aRs (M := M) (N := N) (l := l) (cs := aJ t iv ov) (t := t) _ (G8.ext (by exact fx)) (fun b hb => nLt (hM8 b hb) (Ext.size (by exact fx))) (R.ext t8 (by exact fx)) hs.ins hl (SlE.ext (by exact fx) sc8) (SlE.ext (by exact fx) sg)) ?_; rintro _ w10 ⟨rfl, x10⟩)|refine zL rfl (fun h => ?_) (fun h => ?_))
          all_goals
            rw [hR]
            first
              | (rw [if_pos ‹(l.any fun x => gJ t x && !nU l x) = true›]
                 exact aA rfl ⟨rfl, Ext.trans (x08 ()) (by exact fx)⟩)
              | (rw [if_neg (by rw [‹(l.any fun x => gJ t x && !nU l x) = false›]; simp)]
                 first
                   | (rw [if_pos (by omega)]
                      exact aA rfl ⟨rfl, Ext.trans (x08 ()) (by exact fx)⟩)
                   | (rw [if_neg (by omega)]
                      first
                        | (rw [if_pos ‹gC l t = true›]
                           exact aA rfl ⟨rfl, Ext.trans (x08 ()) (by exact fx)⟩)
                        | (rw [if_neg (by rw [‹gC l t = false›]; simp)]
                           first
                             | (rw [if_pos (by rw [hnv]; exact of_decide_eq_true (by assumption))]
                                exact aA rfl ⟨rfl, Ext.trans (x08 ()) (by exact fx)⟩)
                             | (rw [if_neg (by rw [hnv]; exact of_decide_eq_false (by assumption))]
                                exact aA rfl ⟨rfl, Ext.trans (x08 ()) (by exact fx)⟩))))
        | true =>
          rw [if_pos hgn] at hnv
          have hnN : gY l t = fY l t := by unfold gY; rw [if_neg (by simpa using hc), if_neg (by rw [hh]; simp), if_pos hgn]
          have hnE : gT l t = 0 := by unfold gT; rw [if_neg (by simpa using hc), if_neg (by rw [hh]; simp), if_pos hgn]
          refine kF rfl ?_
          unfold iE
          refine oy ?_
          repeat' (first|refine dJ (b := .cons ⟨some 39, _, _⟩ _) (fun (vc : Value) w' => Ext w4 w' ∧ Own bL T.string w4.heap.size w' vc (aK l (bV l t))) (fun vc => [(2, .int .i64 fee), (3, .pointer (some ⟨bg, 0, none⟩)), (4, .pointer (some ⟨bt, 0, none⟩)), (9, .int .i64 (fY l t)), (36, vc), (37, .pointer (some ⟨g, 0, none⟩)), (38, .agg (aJ t iv ov).toArray)]) ?_ ?_|(rintro vc ρ7 w7 ⟨x7, oc⟩; have sc := oc.sl; try dsimp only)|(exact ⟨v6, ⟨rfl, rfl, rfl, rfl, rfl, rfl, rfl, trivial⟩, by exact fx, Own.lower (Own.ext (by exact fx) o6) (Ext.size (by exact fx))⟩)|refine zF (d := some 32) (v := .bool true) ((qG _).trans (by rw [hgf])) ?_|refine go1 ?_|refine zg λ_ _=>?_|refine zi λ_ _=>?_|refine zD (d := some 3) rfl rfl (fun bg wg xg bg' (rg : Row wg ⟨bg, 0, none⟩ [.pointer (some ⟨g, 0, none⟩)]) hbg0=>?_)|refine zD (d := some 4) rfl rfl (fun bt wt xt bt' (rt : Row wt ⟨bt, 0, none⟩ (aJ t iv ov)) hbt0=>?_)|(refine zC (d := some 17) rfl (fZ (M := N) (cs := aJ t iv ov) (t := t) _ (R.ext ht0 (by exact fx)) hs) ?_; rintro _ w3 ⟨rfl, x3⟩; rw [e0])|(refine zC (d := some 26) rfl (aE9 (M := M) (N := N) (l := l) (cs := aJ t iv ov) (t := t) _ (hG.ext (by exact fx)) (fun b hb => nLt (hM b hb) (Ext.size (by exact fx))) (R.ext ht0 (by exact fx)) hs hl hf) ?_; rintro _ w4 ⟨rfl, x4⟩; rw [hnN, hnE])|refine fD ?_ ?_|(refine zC (d := some 36) rfl (gX (M := M) (N := N) (l := l) (cs := aJ t iv ov) (t := t) _ (hG.ext (by exact fx)) (fun b hb => nLt (hM b hb) (Ext.size (by exact fx))) (R.ext ht0 (by exact fx)) hs.ins hl) ?_; rintro v6 w6 ⟨o6, x6⟩)|(refine zC (d := some 39) rfl (jU (M := M) (N := N) (l := l) (cs := aJ t iv ov) (t := t) _ (hG.ext (by exact fx)) (fun b hb => nLt (hM b hb) (Ext.size (by exact fx))) (R.ext ht0 (by exact fx)) hs.ins hl) ?_; rintro vg w8 ⟨og, x8⟩; have sg := og.sl)|refine aY (d := some 42) (E := bL) (l := aK l (bV l t)) rfl (SlE.ext (by exact fx) sc) ?_)
          have sc8 := SlE.ext x8 sc
          have rg8 : Row w8 ⟨bg, 0, none⟩ [.pointer (some ⟨g, 0, none⟩)] := rg.ext (by exact fx)
          have rt8 : Row w8 ⟨bt, 0, none⟩ (aJ t iv ov) := rt.ext (by exact fx)
          have y08 : Ext w w8 := by exact fx
          have G8 := hG.ext y08
          have t8 := R.ext ht0 y08
          have hM8 : ∀ b ∈ M, b < w8.heap.size := fun b hb => nLt (hM b hb) y08.size
          have x08 : Unit → Ext w w8 := fun _ => y08
          clear y08
          have scR : SlR pP [] w8 vc (aK l (bV l t)) := SlE.toR (F := bL) (ag := false) sc8 (by simp)
          have tl : ∀ w1, Ext w8 w1 → sL F.replace_Rules_1 [.pointer (some ⟨bg, 0, none⟩)] pP (fun cs => cs.headD undef) [] w1 (aK l (bV l t)) (fun s => !nU l (dV l s)) := fun w1 x1 x hx w' cs x2 hc => by
            obtain rfl : cs = [Value.string x] := hc
            exact aNx (M := M) x w' (G8.ext (x1.trans x2)) (fun b hb => nLt (hM8 b hb) (x1.trans x2).size) hl (rg8.ext (x1.trans x2))
          clear oc og x8 x7 x4 x3 xt xg rg rt hG ht0 bg' bt' sc
          repeat' (first|refine go1 ?_|refine zg λ_ _=>?_|refine zi λ_ _=>?_|(refine zL (p := (((aK l (bV l t)).length : Nat) : Int) = 0) rfl (fun h => absurd h (by omega)) (fun _ => ?_))|(refine zC (d := some 47) rfl (aB3 (l := aK l (bV l t)) (M := []) (g := F.replace_Rules_1) (capl := [_]) _ aUs (SlR.ext scR (by exact fx)) (by omega) (tl _ (by exact fx))) ?_; rintro _ w9 ⟨rfl, x9⟩; rw [aZi hnd])|refine zM rfl (fun h => ?_) (fun h => ?_)|refine aY (d := some 50) (E := bL) (l := aK l (evL l t)) rfl (SlE.ext (by exact fx) sg) ?_|(refine zJ (p := (((aK l (evL l t)).length : Nat) : Int) > 100) rfl (fun h => ?_) (fun h => ?_))|(refine zC (d := some 57) rfl (aRs (M := M) (N := N) (l := l) (cs := aJ t iv ov) (t := t) _ (G8.ext (by exact fx)) (fun b hb => nLt (hM8 b hb) (Ext.size (by exact fx))) (R.ext t8 (by exact fx)) hs.ins hl (SlE.ext (by exact fx) sc8) (SlE.ext (by exact fx) sg)) ?_; rintro _ w10 ⟨rfl, x10⟩)|refine zL rfl (fun h => ?_) (fun h => ?_))
          all_goals
            rw [hR]
            first
              | (rw [if_pos ‹(l.any fun x => gJ t x && !nU l x) = true›]
                 exact aA rfl ⟨rfl, Ext.trans (x08 ()) (by exact fx)⟩)
              | (rw [if_neg (by rw [‹(l.any fun x => gJ t x && !nU l x) = false›]; simp)]
                 first
                   | (rw [if_pos (by omega)]
                      exact aA rfl ⟨rfl, Ext.trans (x08 ()) (by exact fx)⟩)
                   | (rw [if_neg (by omega)]
                      first
                        | (rw [if_pos ‹gC l t = true›]
                           exact aA rfl ⟨rfl, Ext.trans (x08 ()) (by exact fx)⟩)
                        | (rw [if_neg (by rw [‹gC l t = false›]; simp)]
                           first
                             | (rw [if_pos (by rw [hnv]; exact of_decide_eq_true (by assumption))]
                                exact aA rfl ⟨rfl, Ext.trans (x08 ()) (by exact fx)⟩)
                             | (rw [if_neg (by rw [hnv]; exact of_decide_eq_false (by assumption))]
                                exact aA rfl ⟨rfl, Ext.trans (x08 ()) (by exact fx)⟩))))
  · have e0 : kQ t = .tuple #[.int .i64 0, .int .i64 (aE t)] := by rw [kQ, if_neg hc]
    have e : dN l t fee = aE t := by rw [dN, if_pos hc]
    rw [e]
    refine kF rfl ?_
    unfold iE
    refine oy ?_
    repeat' (first|refine go1 ?_|refine zg λ_ _=>?_|refine zi λ_ _=>?_|refine zD (d := some 3) rfl rfl (fun bg wg xg bg' (rg : Row wg ⟨bg, 0, none⟩ [.pointer (some ⟨g, 0, none⟩)]) hbg0=>?_)|refine zD (d := some 4) rfl rfl (fun bt wt xt bt' (rt : Row wt ⟨bt, 0, none⟩ (aJ t iv ov)) hbt0=>?_)|(refine zC (d := some 17) rfl (fZ (M := N) (cs := aJ t iv ov) (t := t) _ (R.ext ht0 (by exact fx)) hs) ?_; rintro _ w3 ⟨rfl, x3⟩; rw [e0])|refine zN (p := aE t = 0) rfl (fun _ => ?_) (fun h => absurd h hc))
    exact aA rfl ⟨rfl, by exact fx⟩
end
section
open Go Go.K
attribute [local irreducible] aF aP bG KOp.wp K.Spec u32 leS vnS str aR cF bU dF iT nL dQ iX jD aE aQ bS idT aO
theorem aX7 {t:Tx} (hc:aE t=0) {i:Nat} (hi:i<t.ins.length):∀z∈t.ins[i].wit,z.size≤1000000:=fun z hz=>by
 have:=(cB (lE hc) hc).item _ (gMe hi) z hz
 omega
section
variable {d:Option Tmp} {r:KR} {K:Env→World→Prop} {ρ:Env} {w w0:World} {v:Value} {f:Pt→Option Cn}
theorem bPi {x:Operand} {args:List Operand} (hV:eH w0 v f) (xx:Ext w0 w) (p:Pt) (hp:dM p.i) (hx:ev ρ x=v) (ha:args.map (ev ρ)= [.agg p.cs.toArray])
  (k:∀c w',(f p).getD cn0=c→Ext w w'→aF Tryz.prog r K (put ρ d (.tuple #[.agg c.cs.toArray,.bool (f p).isSome])) w'):aF Tryz.prog (.cons ⟨d,.invoke x "Get" args,none⟩ r) K ρ w:=by
 obtain ⟨⟨t,u,rfl,hv⟩,_⟩:=hV
 obtain ⟨fn,rv,_,hm,hb,hS⟩:=hv p hp w xx
 exact uQ hx hm hb (by rw [ha]) hS fun _ w' ⟨c,e,hc,x⟩=>by subst e;exact k c w' hc x
theorem eH.mo_get {t:TypeId} {u:Value} (hV:eH w0 (.iface t u) f) {p:Pt} (hp:dM p.i):mo t u "Get" =true:=by
 obtain ⟨⟨t',u',e,hv⟩,_⟩:=hV
 cases e
 obtain ⟨_,_,h,_⟩:=hv p hp w0 (Ext.refl w0)
 exact bSu h
theorem bOa {M:List Nat} {iv:Value} {l:List TIn} (h:SlR inR M w iv l) {i:Nat} (hi:i<l.length):dM l[i].p.i:=by
 obtain ⟨css,hsl,hall,_⟩:=h
 obtain ⟨_,_,_,hq,_⟩:=All2.get hall i (by rw [hall.length];exact hi) hi
 exact hq
end
set_option maxHeartbeats 1000000 in
theorem aRn {M:List Nat} {cs:List Value} {t:Tx} {v:Value} {f:Pt→Option Cn} (i:Nat) (hi:i<t.ins.length) (hc:aE t=0) (h:Int) (w:World) (hV:eH w v f) (ht:txR.rel M w cs t):K.Spec Tryz.prog F.check_spent [v,.agg cs.toArray,.int .i64 (i:Nat),.int .i64 h] w fun r w'=>
  ∃c:Cn,r=.tuple #[.agg c.cs.toArray,.int .i64 (inE f t h t.ins[i])]∧c=(f t.ins[i].p).getD cn0∧Ext w w':=by
 have hs:=lE hc
 have hn:=hs.ins
 have hwz:=aX7 hc hi
 have ht0:=ht
 obtain ⟨iv,ov,rfl,h1,h2,h3,h4⟩:=ht
 have hp5:=bOa h1 hi
 have hz:=hV.2
 obtain ⟨vt,vu,rfl⟩:∃vt vu,v=.iface vt vu:=by obtain ⟨⟨a,b,e,_⟩,_⟩:=hV;exact ⟨a,b,e⟩
 have hmo:=hV.mo_get hp5
 refine aSy rfl ?_
 unfold aGl
 refine oy ?_
 repeat' (first|refine zD rfl rfl (fun bp wp xp ap (rp:Row wp ⟨bp,0,none⟩ (aJ t iv ov)) hp0=>?_)|(refine zH (d:=some 8) (fun b8 w8 x8 a8 hb8=>?_);have h08:w.heap.size≤b8:=nTr xp.size hb8)|(refine aM (d:=some 18) (E:=inR) (M:=M) rfl rfl (n:=i) (l:=t.ins) (SlR.ext h1 (by exact fx)) rfl hi (fun ad cs r4 he=>?_);obtain ⟨wv,rfl, -, -, -⟩:=he)|refine bOw (d:=some 22) rfl hmo ?_|refine fD ?_ ?_|refine bPi (d:=some 24) hV (by exact fx) t.ins[i].p hp5 rfl rfl (fun c w6 hcc x6=>?_)|(refine zH (d:=some 10) (fun b10 w10 x10 a10 hb10=>?_);have h10:w8.heap.size≤b10:=nTr (Ext.size (w:=w8) (by exact fx)) hb10)|refine go1 ?_|refine zg λ_ _=>?_|refine zi λ_ _=>?_)
 all_goals
  have l8:=a8.lt
  have s08:w.heap.size≤w8.heap.size:=Ext.size (w:=w) (by exact fx)
  refine aU (w0:=w) (vs:=c.cs) (by exact fx) (nTr s08 h10) (by focus (repeat (first|assumption|(apply At.ext;assumption)))) rfl rfl rfl rfl rfl (fun w7 x7 c7 a7 r7=>?_)
  have a7':At w7 b8 _:=At.chg c7 (At.ext (w:=w8) (by exact fx) a8) (by simp;omega)
  have rp7:Row w7 ⟨bp,0,none⟩ (aJ t iv ov):=Row.chg c7 (Row.ext (w:=wp) (by exact fx) rp) (by have:=ap.lt;have:=x8.size;simp;omega)
  have ht7:=R.ext ht0 x7
  clear c7 a8 rp x8 xp x6 x10
  cases hf:f t.ins[i].p with
  |none=>
   have e:inE f t h t.ins[i]=8:=by unfold inE;rw [hf]
   rw [e]
   rw [hf] at hcc
   repeat' (first|refine aU (w0:=w) (vs:=c.cs) (by exact fx) h08 (by focus (repeat (first|assumption|(apply At.ext;assumption)))) rfl rfl rfl rfl rfl (fun w9 x9 c9 a9 r9=>?_)|refine go1 ?_|refine zg λ_ _=>?_|refine zi λ_ _=>?_)
   exact aA (iR (bD r9 rfl rfl) bJ) ⟨c,rfl,hcc.symm,x9⟩
  |some d=>
   have ec:d=c:=by rw [hf] at hcc;exact hcc
   subst ec
   have e:inE f t h t.ins[i]=if iX d.s t t.ins[i]≠0 then iX d.s t t.ins[i] else if jD t t.ins[i] d.h h then 0 else 10:=by unfold inE;rw [hf]
   rw [e]
   repeat' (first|refine wK (x:=.tmp 28) rfl ?_|(refine zC (d:=some 35) rfl (bG9 (M:=M) (t:=t) (cs:=aJ t iv ov) d.s (hz _ _ hf) i hi hn hwz _ (R.ext ht7 (by exact fx))) ?_;rintro _ w2 ⟨rfl,x2⟩)|refine zN (p:=iX d.s t t.ins[i]=0) rfl (fun ho=>?_) (fun ho=>?_)|(refine zC (d:=some 45) rfl (bHk (M:=M) (t:=t) (cs:=aJ t iv ov) i hi hn d.h h _ (R.ext ht7 (by exact fx))) ?_;rintro _ w3 ⟨rfl,x3⟩)|refine tZ (x:=.tmp 46) rfl (fun hr=>?_) (fun hr=>?_)|refine aU (w0:=w) (vs:=d.cs) (by exact fx) h08 (by focus (repeat (first|assumption|(apply At.ext;assumption)))) rfl rfl rfl rfl rfl (fun w9 x9 c9 a9 r9=>?_)|refine go1 ?_|refine zg λ_ _=>?_|refine zi λ_ _=>?_)
   ·rw [if_pos (by assumption)]
    exact aA (iR (bD r9 rfl rfl) bJ) ⟨d,rfl,rfl,x9⟩
   ·rw [if_neg (by simpa using ‹iX d.s t t.ins[i]=0›),if_neg (by simpa using ‹(!jD t t.ins[i] d.h h)=true›)]
    exact aA (iR (bD r9 rfl rfl) bJ) ⟨d,rfl,rfl,x9⟩
   ·rw [if_neg (by simpa using ‹iX d.s t t.ins[i]=0›),if_pos (by simpa using ‹(!jD t t.ins[i] d.h h)=false›)]
    exact aA (iR (bD r9 rfl rfl) bJ) ⟨d,rfl,rfl,x9⟩
theorem aD4 {M:List Nat} {cs:List Value} {t:Tx} {vt:TypeId} {vu:Value} (w:World) (ht:txR.rel M w cs t) (hs:t.Sm):K.Spec Tryz.prog F.check_formed [.iface vt vu,.agg cs.toArray] w fun r w'=>r=.int .i64 (if aE t≠0 then aE t else if aQ t then 4 else 0)∧Ext w w':=by
 have ht0:=ht
 obtain ⟨iv,ov,rfl,h1,h2,h3,h4⟩:=ht
 refine aPi rfl ?_
 unfold aEt
 refine oy ?_
 repeat' (first|refine zD rfl rfl (fun bp wp xp ap (rp:Row wp ⟨bp,0,none⟩ (aJ t iv ov)) hp0=>?_)|(refine zC (d:=some 9) rfl (sU (M:=M) (t:=t) (cs:=aJ t iv ov) _ (R.ext ht0 (by exact fx)) hs) ?_;rintro _ w2 ⟨rfl,x2⟩)|refine zN (p:=aE t=0) rfl (fun h=>?_) (fun h=>?_)|(refine zC (d:=some 14) rfl (lI (M:=M) (t:=t) (cs:=aJ t iv ov) _ (R.ext ht0 (by exact fx)) hs) ?_;rintro _ w3 ⟨rfl,x3⟩)|refine wK (x:=.tmp 7) rfl ?_|refine zM (x:=.tmp 14) rfl (fun h=>?_) (fun h=>?_)|refine go1 ?_|refine zg λ_ _=>?_|refine zi λ_ _=>?_)
 ·exact aA rfl ⟨by rw [if_pos (show aE t≠0 from h)];rfl,by exact fx⟩
 ·exact aA rfl ⟨by rw [if_neg (show ¬aE t≠0 from fun q=>q ‹aE t=0›),if_pos ‹aQ t=true›];rfl,by exact fx⟩
 ·exact aA rfl ⟨by rw [if_neg (show ¬aE t≠0 from fun q=>q ‹aE t=0›),if_neg (show ¬aQ t=true by rw [‹aQ t=false›];simp)];rfl,by exact fx⟩
theorem bJp (w:World):K.Spec Tryz.prog F.check_told [.int .i64 0] w fun r w'=>r=.nilIface∧Ext w w':=by
 refine aXk rfl ?_
 unfold aKd
 refine oy ?_
 repeat' (first|refine go1 ?_|refine zg λ_ _=>?_|refine zi λ_ _=>?_)
 exact aA rfl ⟨rfl,Ext.refl _⟩
end
end Go.Proofs.YtgloknkcfchnlaaGreat
namespace Go.K
section
open Go Go.Proofs.YtgloknkcfchnlaaGreat
end
end Go.K
namespace Go.Proofs.YtgloknkcfchnlaaGreat
section
open Go Go.K
attribute [local irreducible] aF aP bG KOp.wp K.Spec u32 leS vnS str aR dE bS idT aO aE aQ idN bB cH bY bT cE eO bPu idL
attribute [local irreducible] eA eB gY gT dN bV evL aK
end
section
open Go Go.K
attribute [local irreducible] aF aP bG KOp.wp K.Spec u32 leS vnS str aR dE bS idT aO aE aQ idN bB cH bY bT cE eO gY gT dN aB8 bV evL aK zY bFb gJ inB bF gZ bK
end
end Go.Proofs.YtgloknkcfchnlaaGreat
