/- Contracts: the reference's list of entries, with one more or -/
import Derived.Test.YtgloknkcfchnlabGreatDoorZ22
set_option linter.unusedVariables false
set_option linter.unusedSimpArgs false
namespace Go.Proofs.YtgloknkcfchnlabGreatDoor
section
open Go Go.K
attribute [local irreducible] aG aK aU KOp.wp K.Spec u32 leS vnS str aN cV bH idT aV aJ aO
theorem wH {α:Type} {l:List α} {n i:Nat} (h:i<l.length):(l.take (i+1)).eraseIdx n=if i=n then (l.take i).eraseIdx n else (l.take i).eraseIdx n++ [l[i]]:=by
 rw [List.take_succ_eq_append_getElem h]
 by_cases e:i=n
 ·subst e
  rw [if_pos rfl,List.eraseIdx_append_of_length_le (by rw [List.length_take];omega)]
  rw [List.length_take,Nat.min_eq_left (by omega),Nat.sub_self]
  rw [List.eraseIdx_of_length_le (l:=l.take i) (by rw [List.length_take];omega)]
  simp
 ·rw [if_neg e]
  rcases Nat.lt_or_ge n i with h1|h1
  ·rw [List.eraseIdx_append_of_lt_length (by rw [List.length_take];omega)]
  ·rw [List.eraseIdx_of_length_le (l:=l.take i) (by rw [List.length_take];omega),List.eraseIdx_of_length_le (by simp;omega)]
theorem aHo {t:Tx} (h:aJ t=0):fN t=true∧pN t=false∧gE t=true∧tD t=false∧kG (values t)=0:=by
 unfold aJ at h
 by_cases h1:fN t=true
 ·by_cases h2:pN t=true
  ·rw [h1,h2] at h;simp at h
  ·by_cases h3:gE t=true
   ·by_cases h4:tD t=true
    ·rw [h1,h3,h4] at h;simp at h;exact absurd h (by split<;>decide)
    ·simp only [Bool.not_eq_true] at h2 h4
     rw [h1,h2,h3,h4] at h
     exact ⟨h1,h2,h3,h4,by simpa using h⟩
   ·simp only [Bool.not_eq_true] at h2 h3
    rw [h1,h2,h3] at h;simp at h
 ·simp only [Bool.not_eq_true] at h1
  rw [h1] at h;simp at h
theorem aUu {t:Tx} (h:aJ t=0):t.Sm:=by
 have h1:=(aHo h).1
 unfold fN at h1
 simp only [Bool.and_eq_true,decide_eq_true_eq,Bool.not_eq_true',List.any_eq_false,Int.not_lt,gt_iff_lt] at h1
 exact ⟨by omega,by omega,fun x hx=>by have:=h1.2 x hx;omega⟩
theorem aN5 {t:Tx} (h:aJ t=0):∃hi:0<t.ins.length,gO t.ins[0].p=aO t:=by
 have hp:=aHo h
 have h1:=hp.1
 unfold fN at h1
 simp only [Bool.and_eq_true,decide_eq_true_eq] at h1
 have hi:0<t.ins.length:=by omega
 refine ⟨hi,?_⟩
 unfold aO
 by_cases hl:t.ins.length=1
 ·rw [dTr hl,Bool.true_and,aP8 hi]
 ·rw [dFa hl,Bool.false_and]
  have h3:=hp.2.2.1
  unfold gE at h3
  simp only [Bool.not_eq_true',List.any_eq_false] at h3
  have h4:=h3 _ (gMe hi)
  unfold pW at h4
  simp only [Bool.or_eq_true,not_or,Bool.and_eq_true,decide_eq_true_eq,not_and] at h4
  by_cases hb:gO t.ins[0].p=true
  ·exact absurd (by omega) (h4.2 hb)
  ·simpa using hb
end
section
open Go Go.K
attribute [local irreducible] aG aK aU KOp.wp K.Spec u32 leS vnS str aN cV bH idT aV aJ aO
section
variable {P:Program} {d:Option Tmp} {r:KR} {K:Env→World→Prop} {ρ:Env} {w:World}
end
end
section
open Go Go.K
attribute [local irreducible] aG aK aU KOp.wp K.Spec u32 leS vnS str aN cV bH idT aV aJ aO
end
end Go.Proofs.YtgloknkcfchnlabGreatDoor
