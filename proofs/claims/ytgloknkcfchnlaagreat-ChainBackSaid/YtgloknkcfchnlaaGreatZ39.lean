/- The engine, part 23: steps that tell what was drawn. Contrac -/
import Derived.Test.YtgloknkcfchnlaaGreatZ2
import Derived.Test.YtgloknkcfchnlaaGreatZ8
import Derived.Test.YtgloknkcfchnlaaGreatZ9
import Derived.Test.YtgloknkcfchnlaaGreatZ10
set_option linter.unusedVariables false
set_option linter.unusedSimpArgs false
namespace Go.K
section
open Go
section
variable {P:Program} {d:Option Tmp} {r:KR} {K:Env→World→Prop} {ρ:Env} {w:World}
theorem aOy {t:TypeId} {x:Operand} {v:Value} {cs:List Value} (hx:ev ρ x=v) (hc:v.cells=cs.toArray) (k:∀b w',Ext w w'→w'.drawn=w.drawn→Row w' ⟨b,0,none⟩ cs→aF P r K (put ρ d (.pointer (some ⟨b,0,none⟩))) w'):aF P (.cons ⟨d,.box t x,none⟩ r) K ρ w:=
 gV (by subst hx;have h:=At.new w (.cells cs.toArray t);rw [←hc] at h;exact k _ _ (Ext.alloc w _) rfl (Row.of_at (by rw [←hc];exact h)))
theorem aQ3 {t:TypeId} {ln:Nat} {zs cs:List Value} {ps:List (Nat × Nat × Operand)} (hf:sF (ev ρ) zs ps=some cs) (k:∀b w',Ext w w'→w'.drawn=w.drawn→At w' b (.cells cs.toArray t (0,0))→aF P r K (put ρ d (.slice (some ⟨b,0,none⟩) ln ln)) w'):aF P (.cons ⟨d,.buildSlice t ln zs ps,none⟩ r) K ρ w:=
 gV ⟨cs,hf,k _ _ (Ext.alloc w _) rfl (At.new w _)⟩
theorem bJ1 {b:KC} {K:Exit→Env→World→Prop} (h:∀w',Ext w w'→w.drawn≤w'.drawn→aF P r (aP P b K) ρ w'):aP P (.seq (.reg true r) b) K ρ w:=h _ (Ext.drew w) (Nat.le_succ w.drawn)
end
theorem cC {P:Program} {r:KR} {K:Env→World→Prop} {ρ:Env} {w:World} {d:Option Tmp} {o:KOp} {t:Tmp} {b:Bool} {p:Prop} [Decidable p] (h:ρ t=.bool (!decide p)) (h1:¬p→aF P (.cons ⟨d,o,some (t,b)⟩ r) K (upd ρ t (.bool true)) w) (h2:p→aF P (.cons ⟨d,o,some (t,b)⟩ r) K (upd ρ t (.bool false)) w):aF P (.cons ⟨d,o,some (t,b)⟩ r) K ρ w:=by
 by_cases hp:p
 ·have:=h2 hp;rwa [aDu (by rw [h];simp [hp])] at this
 ·have:=h1 hp;rwa [aDu (by rw [h];simp [hp])] at this
end
end Go.K
namespace Go.Proofs.YtgloknkcfchnlaaGreat
section
open Go Go.K
attribute [local irreducible] aF aP bG KOp.wp
theorem aMs (n:Int) (w:World):K.Spec Tryz.prog F.cmp_isNaN_uint32 [.int .u32 n] w fun v w'=>v=.bool false∧w'=w:=by
 refine aHc rfl ?_
 unfold vZ
 refine oy ?_
 repeat (first|refine go ?_|refine zg λ_ _=>?_|refine zi λ_ _=>?_)
 exact aA rfl ⟨congrArg Value.bool (by simp),rfl⟩
theorem bAv (n m:Int) (w:World):K.Spec Tryz.prog F.cmp_Compare_uint32 [.int .u32 n,.int .u32 m] w fun v w'=>v=.int .i64 (bC3 n m)∧w'=w:=by
 refine aEw rfl ?_
 unfold sS
 refine oy ?_
 repeat (first|refine go ?_|refine zg λ_ _=>?_|refine zi λ_ _=>?_)
 refine iB rfl (aMs _ _) ?_
 rintro _ _ ⟨rfl,rfl⟩
 repeat (first|refine go ?_|refine zg λ_ _=>?_|refine zi λ_ _=>?_)
 refine iB rfl (aMs _ _) ?_
 rintro _ _ ⟨rfl,rfl⟩
 repeat (first|refine go ?_|refine zg λ_ _=>?_|refine zi λ_ _=>?_)
 refine tI rfl (fun h1=>?_) (fun h1=>?_)
 ·repeat (first|refine go ?_|refine zg λ_ _=>?_|refine zi λ_ _=>?_)
  exact aA rfl ⟨congrArg (Value.int .i64) (by rw [bC3,if_pos h1]),rfl⟩
 ·repeat (first|refine go ?_|refine zg λ_ _=>?_|refine zi λ_ _=>?_)
  refine tI rfl (fun h2=>?_) (fun h2=>?_)
  ·repeat (first|refine go ?_|refine zg λ_ _=>?_|refine zi λ_ _=>?_)
   exact aA rfl ⟨congrArg (Value.int .i64) (by rw [bC3,if_neg h1,if_pos h2]),rfl⟩
  ·repeat (first|refine go ?_|refine zg λ_ _=>?_|refine zi λ_ _=>?_)
   exact aA rfl ⟨congrArg (Value.int .i64) (by rw [bC3,if_neg h1,if_neg h2]),rfl⟩
def bTp:Enc Int:=⟨fun n=> [.int .i64 n],1,fun _=>rfl,by decide,by intro x v hv;simp at hv;subst hv;rfl⟩
theorem bMg (a b:Int) (v:Value) (w:World) (hs:SlE bTp w v [a,b]):K.Spec Tryz.prog F.cmp_Or_int [v] w fun v w'=>v=.int .i64 (orI a b)∧w'=w:=by
 refine aWw rfl ?_
 unfold aJ0
 refine oy ?_
 repeat (first|refine go ?_|refine zg λ_ _=>?_|refine zi λ_ _=>?_)
 refine aY rfl hs ?_
 repeat (first|refine go ?_|refine zg λ_ _=>?_|refine zi λ_ _=>?_)
 refine aI (fun (i:Nat) w'=>w'=w∧i≤2∧(0<i→a=0)∧(1<i→b=0)) (fun i=> [(3,.int .i64 0),(6,v),(7,.int .i64 2),(8,.int .i64 i)]) (fun i=>2 - i) 0 ⟨rfl,rfl,rfl,rfl,trivial⟩ ⟨rfl,by omega,by omega,by omega⟩ ?_
 rintro i ρ _ ⟨rfl,hi,h0,h1⟩
 repeat (first|refine go ?_|refine zg λ_ _=>?_|refine zi λ_ _=>?_)
 refine tI rfl (fun h=>?_) (fun h=>?_)
 ·repeat (first|refine go ?_|refine zg λ_ _=>?_|refine zi λ_ _=>?_)
  refine aS rfl rfl hs rfl (by simp;omega) (fun ad r1=>?_)
  repeat (first|refine go ?_|refine zg λ_ _=>?_|refine zi λ_ _=>?_)
  refine aO3 rfl (fun h2=>?_) (fun h2=>?_)
  ·repeat (first|refine go ?_|refine zg λ_ _=>?_|refine zi λ_ _=>?_)
   refine aA rfl ⟨congrArg (Value.int .i64) ?_,rfl⟩
   rcases (show i=0∨i=1 by omega) with rfl|rfl
   ·have h3:¬a=0:=h2
    show a=_
    rw [orI,if_neg h3]
   ·show b=_
    rw [orI,if_pos (h0 (by omega))]
  ·repeat (first|refine go ?_|refine zg λ_ _=>?_|refine zi λ_ _=>?_)
   have h3:(i=0→a=0)∧(i=1→b=0):=by
    constructor
    ·rintro rfl;exact h2
    ·rintro rfl;exact h2
   refine ⟨i+1,⟨rfl,rfl,rfl,rfl,trivial⟩,⟨rfl,by omega,fun _=>?_,fun _=>?_⟩,by omega⟩
   ·rcases (show i=0∨i=1 by omega) with e|e
    ·exact h3.1 e
    ·exact h0 (by omega)
   ·exact h3.2 (by omega)
 ·repeat (first|refine go ?_|refine zg λ_ _=>?_|refine zi λ_ _=>?_)
  have:i=2:=by omega
  subst this
  exact aA rfl ⟨congrArg (Value.int .i64) (by rw [orI,if_pos (h0 (by omega)),h1 (by omega)]),rfl⟩
theorem aXg (a b:ByteArray) (w:World):K.Spec Tryz.prog F.strings_Compare [.string a,.string b] w fun v w'=>v=.int .i64 (Lib.compareBytes a.data.toList b.data.toList)∧w'=w:=
 (Tryz.strings_Compare a b w).mono fun e w' ⟨he,hw⟩=>⟨_,he,rfl,hw⟩
attribute [local irreducible] K.Spec
theorem aMi (p q:Pt) (w:World):K.Spec Tryz.prog F.tx_Less [p.val,q.val] w fun v w'=>v=.bool (lK p q)∧Ext w w'∧w.drawn≤w'.drawn:=by
 refine bHm rfl ?_
 unfold aT9
 refine oy ?_
 repeat' (first|refine bJ1 (fun w3 x3 d3=>?_)|refine aOy (d:=some 2) (cs:=p.cs) rfl rfl (fun b1 w1 x1 d1 r1=>?_)|refine aOy (d:=some 3) (cs:=q.cs) rfl rfl (fun b2 w2 x2 d2 r2=>?_)|refine fD ?_ ?_|(refine iB rfl (aXg _ _ _) ?_;rintro _ _ ⟨rfl,rfl⟩)|(refine iB rfl (bAv _ _ _) ?_;rintro _ _ ⟨rfl,rfl⟩)|refine aQ3 rfl (fun b4 w4 x4 d4 a4=>?_)|(refine iB rfl (bMg (Lib.compareBytes p.s.data.toList q.s.data.toList) (bC3 p.i q.i) _ _ (SlE.new (by assumption) rfl (Nat.le_refl _))) ?_;rintro _ _ ⟨rfl,rfl⟩)|refine go1 ?_|refine zg λ_ _=>?_|refine zi λ_ _=>?_)
 all_goals exact aA rfl ⟨congrArg Value.bool (bSw p q),by repeat (first|assumption|exact Ext.refl _|refine Ext.trans ?_ (by assumption)),by omega⟩
end
end Go.Proofs.YtgloknkcfchnlaaGreat
