/- Contracts: the reference's list of entries, with one more or -/
import Derived.Test.YteceapipdhnhdaaGreatDoorNa22
set_option linter.unusedVariables false
set_option linter.unusedSimpArgs false
namespace Go.Proofs.YteceapipdhnhdaaGreatDoor
section
open Go Go.K
attribute [local irreducible] aH aM aY KOp.wp K.Spec u32 leS vnS str aP cM bK idT aQ aG aN
theorem aFh {α:Type} {l:List α} {n i:Nat} (h:i<l.length):(l.take (i+1)).eraseIdx n=if i=n then (l.take i).eraseIdx n else (l.take i).eraseIdx n++ [l[i]]:=by
 rw [List.take_succ_eq_append_getElem h]
 by_cases e:i=n
 ·subst e
  rw [if_pos rfl,List.eraseIdx_append_of_length_le (by rw [List.length_take];omega)]
  rw [List.length_take,Nat.min_eq_left (by omega),Nat.sub_self]
  rw [List.eraseIdx_of_length_le (l:=l.take i) (by rw [List.length_take];omega)]
  simp
 ·rw [if_neg e]
  rcases Nat.lt_or_ge n i with h1|h1
  ·rw [List.eraseIdx_append_of_lt_length (by rw [List.length_take];omega)]
  ·rw [List.eraseIdx_of_length_le (l:=l.take i) (by rw [List.length_take];omega),List.eraseIdx_of_length_le (by simp;omega)]
theorem aTa {t:Tx} (h:aG t=0):iW t=true∧yM t=false∧jV t=true∧aCf t=false∧nO (values t)=0:=by
 unfold aG at h
 by_cases h1:iW t=true
 ·by_cases h2:yM t=true
  ·rw [h1,h2] at h;simp at h
  ·by_cases h3:jV t=true
   ·by_cases h4:aCf t=true
    ·rw [h1,h3,h4] at h;simp at h;exact absurd h (by split<;>decide)
    ·simp only [Bool.not_eq_true] at h2 h4
     rw [h1,h2,h3,h4] at h
     exact ⟨h1,h2,h3,h4,by simpa using h⟩
   ·simp only [Bool.not_eq_true] at h2 h3
    rw [h1,h2,h3] at h;simp at h
 ·simp only [Bool.not_eq_true] at h1
  rw [h1] at h;simp at h
theorem nD {t:Tx} (h:aG t=0):t.Sm:=by
 have h1:=(aTa h).1
 unfold iW at h1
 simp only [Bool.and_eq_true,decide_eq_true_eq,Bool.not_eq_true',List.any_eq_false,Int.not_lt,gt_iff_lt] at h1
 exact ⟨by omega,by omega,fun x hx=>by have:=h1.2 x hx;omega⟩
theorem aNw {t:Tx} (h:aG t=0):∃hi:0<t.ins.length,kB t.ins[0].p=aN t:=by
 have hp:=aTa h
 have h1:=hp.1
 unfold iW at h1
 simp only [Bool.and_eq_true,decide_eq_true_eq] at h1
 have hi:0<t.ins.length:=by omega
 refine ⟨hi,?_⟩
 unfold aN
 by_cases hl:t.ins.length=1
 ·rw [dTr hl,Bool.true_and,bEi hi]
 ·rw [dFa hl,Bool.false_and]
  have h3:=hp.2.2.1
  unfold jV at h3
  simp only [Bool.not_eq_true',List.any_eq_false] at h3
  have h4:=h3 _ (gMe hi)
  unfold xU at h4
  simp only [Bool.or_eq_true,not_or,Bool.and_eq_true,decide_eq_true_eq,not_and] at h4
  by_cases hb:kB t.ins[0].p=true
  ·exact absurd (by omega) (h4.2 hb)
  ·simpa using hb
end
section
open Go Go.K
attribute [local irreducible] aH aM aY KOp.wp K.Spec u32 leS vnS str aP cM bK idT aQ aG aN
theorem u8_xor (a b:UInt8):bM .xor (.int .u8 (a.toNat:Nat)) (.int .u8 (b.toNat:Nat))=some (.int .u8 ((a^^^b).toNat:Nat)):=by
 have e:∀x:UInt8,BitVec.ofInt 8 (x.toNat:Nat)=x.toBitVec:=fun x=>by
  apply BitVec.eq_of_toNat_eq
  have:=x.toNat_lt
  simp [BitVec.toNat_ofInt]
 simp only [bM,dK,Bool.false_eq_true,if_false,if_true,dG,IntKind.bits]
 rw [e,e]
 refine congrArg some (congrArg (Value.int .u8) ?_)
 have h:IntKind.u8.wrap ((a.toBitVec^^^b.toBitVec).toNat:Nat)=(((a^^^b).toNat:Nat):Int)%256:=rfl
 refine h.trans ?_
 have:=(a^^^b).toNat_lt
 omega
theorem bQ2 (n i:Nat):bM .shr (.int .i64 (n:Nat)) (.int .i64 ((i%8:Nat):Int))=some (.int .i64 ((n / 2^(i%8):Nat):Int)):=by
 simp only [bM,dK,if_true]
 rw [if_neg (by omega)]
 have e:min ((i%8:Nat):Int).toNat IntKind.i64.bits=i%8:=by simp [IntKind.bits];omega
 rw [e,Int.fdiv_eq_ediv_of_nonneg _ (by exact_mod_cast Nat.zero_le _)]
 norm_cast
section
variable {P:Program} {d:Option Tmp} {r:KR} {K:Env→World→Prop} {ρ:Env} {w:World}
theorem bQa {x:Operand} {n:Nat} (hx:ev ρ x=.int .i64 (n:Nat)) (k:aH P r K (put ρ d (.int .u8 ((UInt8.ofNat n).toNat:Nat))) w):aH P (.cons ⟨d,.conv .u8 x,none⟩ r) K ρ w:=
 cS rfl (by simp only [KOp.fix,hx];rw [aDw]) k
end
theorem bJx (n:Nat) (w:World):K.Spec Tryz.prog F.kedgeref05_ID [.int .i64 (n:Nat)] w fun r w'=>r=.string (idN n)∧Ext w w':=by
 refine aMt rfl ?_
 unfold aA8
 refine oy ?_
 repeat' (first|refine aN5 (n:=i) (m:=8) rfl rfl (by decide) ?_|refine dF rfl rfl (bQ2 n i) ?_|refine bQa rfl ?_|refine dF rfl rfl (u8_xor (UInt8.ofNat (n / 2^(i%8))) (UInt8.ofNat i)) ?_|(first|refine go2 ?_|fail)|refine zL rfl (fun h=>?_) (fun h=>?_)|(refine aJ (fun (i:Nat) w'=>Ext w w'∧i≤32) (fun i=> [(0,.int .i64 (n:Nat)),(3,.string (str (((List.range 32).map fun i=>UInt8.ofNat (n / 2^(i%8))^^^UInt8.ofNat i).take i))),(4,.int .i64 i)]) (fun i=>32 - i) 0 ⟨rfl,congrArg Value.string bEm.symm,rfl,trivial⟩ ⟨Ext.refl _,by omega⟩ ?_;rintro i ρ w1 ⟨x1,hi⟩)|refine zI rfl (fun b w2 x2 a2 hb=>?_)|refine aAh (l:= [UInt8.ofNat (n / 2^(i%8))^^^UInt8.ofNat i]) rfl (SlE.new (E:=u8E) a2 rfl (Nat.le_refl _)) ?_|refine lK rfl rfl (by rw [jF,jF];simp;omega) ?_)
 ·exact ⟨i+1,⟨rfl,congrArg Value.string (bJa n i (by omega)).symm,rfl,trivial⟩,⟨by exact fx,by omega⟩,by omega⟩
 ·exact aA rfl ⟨congrArg Value.string (by rw [idN,tLe (by simp;omega)]),by exact fx⟩
end
section
open Go Go.K
attribute [local irreducible] aH aM aY KOp.wp K.Spec u32 leS vnS str aP cM bK idT aQ aG aN idN xL bG bQ
theorem aOd {base:Nat→Bool} {edge:Nat→Nat→Bool} {n:Nat} (h:∀i,i<n→base i=false):∀(r i:Nat),i<n→bG base edge n r i=false
 |0,i,_=>by unfold bG;rfl
 |r+1,i,hi=>by
  rw [←Bool.not_eq_true,iV]
  rintro (h1|⟨k,h1,h2,h3⟩)
  ·rw [h i hi] at h1;cases h1
  ·rw [aOd h r k h1] at h2;cases h2
end
end Go.Proofs.YteceapipdhnhdaaGreatDoor
