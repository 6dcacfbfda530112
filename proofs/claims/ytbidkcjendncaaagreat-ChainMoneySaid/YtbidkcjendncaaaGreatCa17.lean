/- Plain: entries that hang on one another. Contracts: the reference's list of entries. Contracts: ids of numbers; alike transactions; counts. Plain: transactions as small numbers. Contracts: transactions made of small numbers. Contracts: transactions cut to a size. Contracts: the reference's list of entries, with one more or one less; ids of numbers; alike transactions. Plain: what is reached, step  -/
import Derived.Test.YtbidkcjendncaaaGreatProg
import Derived.Shelf.SlicesE.DeleteFunc
import Derived.Test.YtbidkcjendncaaaGreatCa16
set_option linter.unusedVariables false
set_option linter.unusedSimpArgs false
section
namespace Go.K
open Go
def spends (x:Ent) (p:Pt):Bool:=x.tx.ins.any fun i=>decide (i.p=p)
section
variable {l:List Ent} {m:List Bool} (h:l.length=m.length) {i:Nat} (hi:i<l.length)
include h hi
end
end Go.K
end
section
namespace Go.Proofs.YtbidkcjendncaaaGreat
open Go Go.K
attribute [local irreducible] regK codeK retK KOp.wp K.Spec u32 leS vnS str zero32 sha2 encT idT sizeT checkT grantB
end Go.Proofs.YtbidkcjendncaaaGreat
end
section
namespace Go.Proofs.YtbidkcjendncaaaGreat
open Go Go.K
attribute [local irreducible] regK codeK retK KOp.wp K.Spec u32 leS vnS str zero32 sha2 encT idT sizeT checkT grantB
section
variable {P:Program} {d:Option Tmp} {r:KR} {K:Env→World→Prop} {ρ:Env} {w:World}
end
end Go.Proofs.YtbidkcjendncaaaGreat
end
section
namespace Go.K
open Go
structure Small where
 frm:List UInt8
 idx:UInt8
 outs:UInt8
 fee:Int
 mark:UInt8
 long:UInt8
instance:Inhabited Small:=⟨⟨[],0,0,0,0,0⟩⟩
def u8R:R UInt8:=R.flat u8E false
def u8V (b:UInt8):Value:=.int .u8 (b.toNat:Nat)
structure InMade (x:TIn):Prop where
 lo:0≤x.p.i
 hi:x.p.i<4
 q:x.q=4294967293
 wit:x.wit= []
 id:x.p.s.size=32
structure OutMade (y:TOut):Prop where
 lo:0≤y.v
 hi:y.v≤2000
 s:y.s.size≤40
structure Made (z:Small) (t:Tx):Prop where
 ver:t.ver=2
 lock:t.lock=(z.mark.toNat:Nat)
 ins:t.ins.length=min z.frm.length 4
 each:∀x∈t.ins,InMade x
 outs:t.outs.length=z.outs.toNat%3+1+z.long.toNat
 eacho:∀y∈t.outs,OutMade y
theorem wrap_u8 (b:UInt8):IntKind.i64.wrap (b.toNat:Nat)=(b.toNat:Nat):=IntWalk.i64_in _ (by have:=b.toNat_lt;omega)
theorem rem_u8 (n m:Nat) (h:0<m):binVal .rem (.int .u8 (n:Nat)) (.int .u8 (m:Nat))=some (.int .u8 ((n%m:Nat):Int)):=by
 have hne:(m:Int)≠0:=by omega
 simp only [binVal,isShift,Bool.false_eq_true,if_false,if_true,intBin]
 rw [tm,if_neg hne]
theorem wrap_n8 {n:Nat} (h:n<256):IntKind.i64.wrap (n:Nat)=(n:Nat):=IntWalk.i64_in _ (by omega)
theorem Made.sm {z:Small} {t:Tx} (h:Made z t):t.Sm:=by
 have h1:=h.ins;have h2:=h.outs;have h3:=z.long.toNat_lt
 exact ⟨by omega,by omega,fun x hx=>by rw [(h.each x hx).wit];simp⟩
end Go.K
end
section
namespace Go.Proofs.YtbidkcjendncaaaGreat
open Go Go.K
attribute [local irreducible] regK codeK retK KOp.wp K.Spec u32 leS vnS str zero32 sha2 encT idT sizeT checkT grantB
end Go.Proofs.YtbidkcjendncaaaGreat
end
section
namespace Go.Proofs.YtbidkcjendncaaaGreat
open Go Go.K
attribute [local irreducible] regK codeK retK KOp.wp K.Spec u32 leS vnS str zero32 sha2 encT idT sizeT checkT grantB
end Go.Proofs.YtbidkcjendncaaaGreat
end
section
namespace Go.Proofs.YtbidkcjendncaaaGreat
open Go Go.K
attribute [local irreducible] regK codeK retK KOp.wp K.Spec u32 leS vnS str zero32 sha2 encT idT sizeT checkT grantB
theorem erase_take {α:Type} {l:List α} {n i:Nat} (h:i<l.length):(l.take (i+1)).eraseIdx n=if i=n then (l.take i).eraseIdx n else (l.take i).eraseIdx n++ [l[i]]:=by
 rw [List.take_succ_eq_append_getElem h]
 by_cases e:i=n
 ·subst e
  rw [if_pos rfl,List.eraseIdx_append_of_length_le (by rw [List.length_take];omega)]
  rw [List.length_take,Nat.min_eq_left (by omega),Nat.sub_self]
  rw [List.eraseIdx_of_length_le (l:=l.take i) (by rw [List.length_take];omega)]
  simp
 ·rw [if_neg e]
  rcases Nat.lt_or_ge n i with h1|h1
  ·rw [List.eraseIdx_append_of_lt_length (by rw [List.length_take];omega)]
  ·rw [List.eraseIdx_of_length_le (l:=l.take i) (by rw [List.length_take];omega),List.eraseIdx_of_length_le (by simp;omega)]
theorem chk_parts {t:Tx} (h:checkT t=0):countsB t=true∧longB t=false∧formedT t=true∧twiceB t=false∧sumE (values t)=0:=by
 unfold checkT at h
 by_cases h1:countsB t=true
 ·by_cases h2:longB t=true
  ·rw [h1,h2] at h;simp at h
  ·by_cases h3:formedT t=true
   ·by_cases h4:twiceB t=true
    ·rw [h1,h3,h4] at h;simp at h;exact absurd h (by split<;>decide)
    ·simp only [Bool.not_eq_true] at h2 h4
     rw [h1,h2,h3,h4] at h
     exact ⟨h1,h2,h3,h4,by simpa using h⟩
   ·simp only [Bool.not_eq_true] at h2 h3
    rw [h1,h2,h3] at h;simp at h
 ·simp only [Bool.not_eq_true] at h1
  rw [h1] at h;simp at h
theorem chk_sm {t:Tx} (h:checkT t=0):t.Sm:=by
 have h1:=(chk_parts h).1
 unfold countsB at h1
 simp only [Bool.and_eq_true,decide_eq_true_eq,Bool.not_eq_true',List.any_eq_false,Int.not_lt,gt_iff_lt] at h1
 exact ⟨by omega,by omega,fun x hx=>by have:=h1.2 x hx;omega⟩
theorem radd_grant {t:Tx} (h:checkT t=0):∃hi:0<t.ins.length,isBase t.ins[0].p=grantB t:=by
 have hp:=chk_parts h
 have h1:=hp.1
 unfold countsB at h1
 simp only [Bool.and_eq_true,decide_eq_true_eq] at h1
 have hi:0<t.ins.length:=by omega
 refine ⟨hi,?_⟩
 unfold grantB
 by_cases hl:t.ins.length=1
 ·rw [decide_eq_true hl,Bool.true_and,headD_0 hi]
 ·rw [decide_eq_false hl,Bool.false_and]
  have h3:=hp.2.2.1
  unfold formedT at h3
  simp only [Bool.not_eq_true',List.any_eq_false] at h3
  have h4:=h3 _ (List.getElem_mem hi)
  unfold badIn at h4
  simp only [Bool.or_eq_true,not_or,Bool.and_eq_true,decide_eq_true_eq,not_and] at h4
  by_cases hb:isBase t.ins[0].p=true
  ·exact absurd (by omega) (h4.2 hb)
  ·simpa using hb
end Go.Proofs.YtbidkcjendncaaaGreat
end
section
namespace Go.K
open Go
section
variable {base:Nat→Bool} {edge:Nat→Nat→Bool} {n:Nat}
end
section
variable {base:Nat→Bool} {edge:Nat→Nat→Bool} {n:Nat} {m:List Bool}
end
end Go.K
end
section
namespace Go.Proofs.YtbidkcjendncaaaGreat
open Go Go.K
section
variable {P:Program} {d:Option Tmp} {r:KR} {K:Env→World→Prop} {ρ:Env} {w:World}
end
attribute [local irreducible] regK codeK retK KOp.wp K.Spec u32 leS vnS str zero32 sha2 encT idT sizeT checkT grantB
section
variable {base:Nat→Bool} {edge:Nat→Nat→Bool} {n r i:Nat} {m:List Bool}
end
end Go.Proofs.YtbidkcjendncaaaGreat
end
section
namespace Go.K
open Go
variable {P:Program}
section
variable {κ β:Type} [DecidableEq κ] {KE:KEnc κ} {F:R β} {M:List Nat} {w:World} {d:Option Tmp} {r:KR} {K:Env→World→Prop} {ρ:Env}
theorem MapR.new {b:Nat} (h:MapE KE id w b ([]:List (κ × Value))):MapR KE F M w b []:=⟨[],h,.nil⟩
end
end Go.K
end
section
namespace Go.K
open Go
end Go.K
end
section
namespace Go.Proofs.YtbidkcjendncaaaGreat
open Go Go.K
attribute [local irreducible] regK codeK retK KOp.wp K.Spec u32 leS vnS str zero32 sha2 encT idT sizeT checkT grantB spends
end Go.Proofs.YtbidkcjendncaaaGreat
end
section
namespace Go.Proofs.YtbidkcjendncaaaGreat
open Go Go.K
attribute [local irreducible] regK codeK retK KOp.wp K.Spec u32 leS vnS str zero32 sha2 encT idT sizeT checkT grantB spends
end Go.Proofs.YtbidkcjendncaaaGreat
end
section
namespace Go.Proofs.YtbidkcjendncaaaGreat
open Go Go.K
attribute [local irreducible] regK codeK retK KOp.wp K.Spec u32 leS vnS str zero32 sha2 encT idT sizeT checkT grantB spends
end Go.Proofs.YtbidkcjendncaaaGreat
end
section
namespace Go.Proofs.YtbidkcjendncaaaGreat
open Go Go.K
attribute [local irreducible] regK codeK retK KOp.wp K.Spec u32 leS vnS str zero32 sha2 encT idT sizeT checkT grantB spends
end Go.Proofs.YtbidkcjendncaaaGreat
end
section
namespace Go.K
open Go
section
variable {l:List Ent} {frm:List ByteArray} {nxt:Ent→List ByteArray} {T:List ByteArray} {met:List (ByteArray × Nat)}
end
end Go.K
end
section
namespace Go.K
open Go
end Go.K
end
section
namespace Go.Proofs.YtbidkcjendncaaaGreat
open Go Go.K
attribute [local irreducible] regK codeK retK KOp.wp K.Spec u32 leS vnS str zero32 sha2 encT idT sizeT checkT grantB
end Go.Proofs.YtbidkcjendncaaaGreat
end
section
namespace Go.K
open Go
end Go.K
end
section
namespace Go.Proofs.YtbidkcjendncaaaGreat
open Go Go.K
attribute [local irreducible] regK codeK retK KOp.wp K.Spec u32 leS vnS str zero32 sha2 encT idT sizeT checkT grantB
theorem txO.off {B b:Nat} {M:List Nat} {w w':World} {ds:List Value} {t:Tx} (h:txO B ([b]++M) w ds t) (hb:b<B) (c:Chg [b] w w'):txO B M w' ds t:=by
 obtain ⟨iv,ov,rfl,o1,o2,o3⟩:=h
 have g1:=o1.base
 have g2:=o2.base
 have n1:b∉blkOf iv:=fun h=>by have:=g1 _ h;omega
 have n2:b∉blkOf ov:=fun h=>by have:=g2 _ h;omega
 exact ⟨iv,ov,rfl,o1.step c (by intro q hq;simp at hq;subst hq;exact ⟨n1,.inl (by simp)⟩) (fun _ h=>.inl (List.mem_append_right _ h)),o2.step c (by intro q hq;simp at hq;subst hq;exact ⟨n2,.inl (by simp)⟩) (fun _ h=>.inl (List.mem_append_right _ h)),o3⟩
theorem txO.lower {B B':Nat} {M:List Nat} {w:World} {ds:List Value} {t:Tx} (h:txO B M w ds t) (hb:B'≤B):txO B' M w ds t:=by
 obtain ⟨iv,ov,rfl,o1,o2,o3⟩:=h
 exact ⟨iv,ov,rfl,o1.lower hb,o2.lower hb,o3⟩
theorem txO.ext {B:Nat} {M:List Nat} {w w':World} {ds:List Value} {t:Tx} (h:txO B M w ds t) (c:Ext w w'):txO B M w' ds t:=by
 obtain ⟨iv,ov,rfl,o1,o2,o3⟩:=h
 exact ⟨iv,ov,rfl,o1.ext c,o2.ext c,o3⟩
theorem txO.one {B:Nat} {M:List Nat} {w:World} {ds:List Value} {t:Tx} (h:txO B M w ds t):ds.all (fun v=>v.oneCell')=true:=by
 obtain ⟨iv,ov,rfl,o1,o2,o3⟩:=h
 have e1:=o1.one
 have e2:=o2.one
 simp [txCs,e1,e2];exact ⟨rfl,rfl⟩
end Go.Proofs.YtbidkcjendncaaaGreat
end
section
namespace Go.K
open Go
variable {l:List Ent}
end Go.K
end
section
namespace Go.K
open Go
end Go.K
end
section
namespace Go.K
open Go
end Go.K
end
section
namespace Go.Proofs.YtbidkcjendncaaaGreat
open Go Go.K
attribute [local irreducible] regK codeK retK KOp.wp K.Spec u32 leS vnS str zero32 sha2 encT idT sizeT checkT grantB
end Go.Proofs.YtbidkcjendncaaaGreat
end
section
namespace Go.K
open Go
variable {l:List Ent} {s:ByteArray}
end Go.K
end
section
namespace Go.K
open Go
end Go.K
end
section
namespace Go.K
open Go
end Go.K
end
section
namespace Go.K
open Go
end Go.K
end
section
namespace Go.Proofs
end Go.Proofs
end
section
namespace Go.Proofs
open Go.Shelf Go.RowKit Go.Lib Go.Sort
variable {P:Program} {ρ:Ren} {α:Type} [Inhabited α]
end Go.Proofs
namespace Go.Proofs.YtbidkcjendncaaaGreat
open Go Go.K
attribute [local irreducible] regK codeK retK KOp.wp K.Spec u32 leS vnS str zero32 sha2 encT idT
end Go.Proofs.YtbidkcjendncaaaGreat
end
section
namespace Go.Proofs.YtbidkcjendncaaaGreat
open Go Go.K
attribute [local irreducible] regK codeK retK KOp.wp K.Spec u32 leS vnS str zero32 sha2 encT idT sizeT checkT grantB
end Go.Proofs.YtbidkcjendncaaaGreat
end
section
namespace Go.Proofs.YtbidkcjendncaaaGreat
open Go Go.K
attribute [local irreducible] regK codeK retK KOp.wp K.Spec u32 leS vnS str zero32 sha2 encT idT sizeT checkT grantB
end Go.Proofs.YtbidkcjendncaaaGreat
end
section
namespace Go.K
open Go Go.Proofs.YtbidkcjendncaaaGreat
end Go.K
end
section
namespace Go.K
open Go Go.Proofs.YtbidkcjendncaaaGreat
section
variable {l:List Ent} {t:Tx}
end
end Go.K
end
section
namespace Go.K
open Go
end Go.K
end
section
namespace Go.Proofs.YtbidkcjendncaaaGreat
open Go Go.K
attribute [local irreducible] regK codeK retK KOp.wp K.Spec u32 leS vnS str zero32 sha2 encT idT sizeT checkT grantB
end Go.Proofs.YtbidkcjendncaaaGreat
end
section
namespace Go.Proofs.YtbidkcjendncaaaGreat
open Go Go.K
attribute [local irreducible] regK codeK retK KOp.wp K.Spec u32 leS vnS str zero32 sha2 encT idT sizeT checkT grantB
end Go.Proofs.YtbidkcjendncaaaGreat
end
section
namespace Go.Proofs.YtbidkcjendncaaaGreat
open Go Go.K
attribute [local irreducible] regK codeK retK KOp.wp K.Spec u32 leS vnS str zero32 sha2 encT idT sizeT checkT grantB spends
section
variable {P:Program} {d:Option Tmp} {r:KR} {K:Env→World→Prop} {ρ:Env} {w:World}
end
end Go.Proofs.YtbidkcjendncaaaGreat
end
section
namespace Go.Proofs.YtbidkcjendncaaaGreat
open Go Go.K
attribute [local irreducible] regK codeK retK KOp.wp K.Spec u32 leS vnS str zero32 sha2 encT idT sizeT checkT grantB
end Go.Proofs.YtbidkcjendncaaaGreat
end
section
namespace Go.K
open Go
end Go.K
end
section
namespace Go.Proofs.YtbidkcjendncaaaGreat
open Go Go.K
attribute [local irreducible] regK codeK retK KOp.wp K.Spec u32 leS vnS str zero32 sha2 encT idT sizeT checkT grantB
theorem SlR.one1 {α:Type} {E:R α} {M:List Nat} {w:World} {b:Nat} {t:TypeId} {cs:List Value} {a:α} (h:At w b (.cells cs.toArray t (0,0))) (hr:E.rel M w cs a) (hb:b∉M):SlR E M w (.slice (some ⟨b,0,none⟩) 1 1) [a]:=
 ⟨[R.vec hr],SlE.new (E:=vecE E.k E.pos) (l:= [R.vec hr]) (t:=t) (by have e:(vecE E.k E.pos).flat [R.vec hr]=cs:=(by show cs++ []=cs;exact List.append_nil _);rw [e];exact h) rfl (Nat.le_refl _),.cons hr .nil,fun _ c hc hm=>by simp [blkOf] at hc;subst hc;exact hb hm⟩
end Go.Proofs.YtbidkcjendncaaaGreat
end
section
namespace Go.Proofs.YtbidkcjendncaaaGreat
open Go Go.K
attribute [local irreducible] regK codeK retK KOp.wp K.Spec u32 leS vnS str zero32 sha2 encT idT sizeT checkT grantB
section
variable {P:Program} {d:Option Tmp} {r:KR} {K:Env→World→Prop} {ρ:Env} {w:World}
theorem st_takeR {α:Type} {E:R α} {M:List Nat} {size:Nat} {x h:Operand} {v:Value} {l:List α} {kd:IntKind} {n:Nat} {m:Int} {w1:World} (hx:ev ρ x=v) (hh:ev ρ h=.int kd m) (hm:m=(n:Nat)) (hs:SlR E M w1 v l) (hn:n≤l.length) (hk:size=E.k)
  (k:∀v',SlR E M w1 v' (l.take n)→regK P r K (put ρ d v') w):regK P (.cons ⟨d,.sliceSl size x none (some h),none⟩ r) K ρ w:=by
 subst hm
 obtain ⟨css,h1,h2,h3⟩:=hs
 have hl:=h2.length
 refine st_takeE (E:=vecE E.k E.pos) hx hh h1 (by rw [hl];exact hn) hk fun v' h4 h5=>k v' ⟨css.take n,h4,?_,fun hp b hb=>h3 (by rw [List.length_take] at hp;omega) b (h5 b hb)⟩
 have:=h2.take n
 exact All2.take n h2
end
end Go.Proofs.YtbidkcjendncaaaGreat
end
section
namespace Go.Proofs.YtbidkcjendncaaaGreat
open Go Go.K
attribute [local irreducible] regK codeK retK KOp.wp K.Spec u32 leS vnS str zero32 sha2 encT idT sizeT checkT grantB spends
end Go.Proofs.YtbidkcjendncaaaGreat
end
section
namespace Go.K
open Go Go.Proofs.YtbidkcjendncaaaGreat
section
variable {l:List Ent} {t:Tx}
end
end Go.K
end
section
namespace Go.K
open Go Go.Proofs.YtbidkcjendncaaaGreat
def byteAt (s:ByteArray) (i:Nat):Nat:=(s.data.toList.getD i 0).toNat
theorem byteAt_lt (s:ByteArray) (i:Nat):byteAt s i<256:=(s.data.toList.getD i 0).toNat_lt
def numAt (s:ByteArray) (a:Nat):Nat→Nat
 |0=>0
 |k+1=>byteAt s a+256*numAt s (a+1) k
theorem numAt_lt (s:ByteArray):∀(k a:Nat),numAt s a k<256^k
 |0,a=>by simp [numAt]
 |k+1,a=>by
  have h1:=byteAt_lt s a
  have h2:=numAt_lt s k (a+1)
  simp only [numAt,Nat.pow_succ];omega
theorem numAt_snoc (s:ByteArray):∀(k a:Nat),numAt s a (k+1)=numAt s a k+byteAt s (a+k)*256^k
 |0,a=>by simp [numAt]
 |k+1,a=>by
  rw [numAt,numAt_snoc s k (a+1),numAt,show a+1+k=a+(k+1) by omega,Nat.pow_succ,Nat.mul_add,Nat.add_assoc,Nat.mul_left_comm,Nat.mul_comm 256 (256^k)]
theorem numAt_two (s:ByteArray) (a:Nat):numAt s a 2=byteAt s a+256*byteAt s (a+1):=by simp [numAt]
structure Br where
 tag:Nat
 delay:Nat
 height:Nat
deriving DecidableEq
def brAt (s:ByteArray) (i:Nat):Br:=⟨numAt s (1+8*i) 2,numAt s (3+8*i) 2,numAt s (5+8*i) 4⟩
structure BrOk (b:Br):Prop where
 tag:b.tag<65536
 delay:b.delay<65536
 height:b.height<4294967296
theorem brAt_ok (s:ByteArray) (i:Nat):BrOk (brAt s i):=⟨numAt_lt s 2 _,numAt_lt s 2 _,numAt_lt s 4 _⟩
def brE:Enc Br:=⟨fun b=> [.int .u16 (b.tag:Nat),.int .u16 (b.delay:Nat),.int .u32 (b.height:Nat)],3,fun _=>rfl,by decide,by
 intro x v hv
 simp at hv
 rcases hv with rfl|rfl|rfl<;>rfl⟩
def lockN (s:ByteArray):Nat:=(s.size - 1) / 8
def lockForm (s:ByteArray):Bool:=(decide (s.size=9)||decide (s.size=17)||decide (s.size=25))&&decide (byteAt s 0=lockN s)
def brsL (s:ByteArray):List Br:=(List.range (lockN s)).map (brAt s)
def lowB (b:Br):Bool:=decide (b.height≤1000000)
def lockL (s:ByteArray):List Br:=if lockForm s&&(brsL s).all lowB then brsL s else []
def signL (l:List ByteArray):Option (Nat × Nat):=if l.length=1∧(l.headD default).size=3∧byteAt (l.headD default) 0<3 then some (byteAt (l.headD default) 0,numAt (l.headD default) 1 2) else none
def chosenB (s:ByteArray) (wit:List ByteArray):Option Br:=(signL wit).bind fun p=>((lockL s)[p.1]?).bind fun b=>if b.tag=0∨b.tag=p.2 then some b else none
def waitsT (t:Tx) (x:TIn):Int:=if x.q<2147483648∧t.ver≥2 then x.q%65536 else 0
def openE (s:ByteArray) (t:Tx) (x:TIn):Int:=match chosenB s x.wit with
 |none=>9
 |some b=>if waitsT t x<(b.delay:Int) then 10 else if b.height>0∧(t.lock<(b.height:Int)∨x.q=4294967295) then 10 else 0
def heightB (n:Int):Bool:=decide (0≤n∧n≤1000000)
def ripeB (t:Tx) (x:TIn) (coin block:Int):Bool:=heightB coin&&heightB block&&decide (coin+waitsT t x≤block)&&(decide (t.lock<block)||t.ins.all fun y=>decide (y.q=4294967295))
def inE (v:Pt→Option Cn) (t:Tx) (h:Int) (x:TIn):Int:=match v x.p with
 |none=>8
 |some c=>if openE c.s t x≠0 then openE c.s t x else if ripeB t x c.h h then 0 else 10
def inV (v:Pt→Option Cn) (x:TIn):Int:=((v x.p).getD cn0).v
def feeP (v:Pt→Option Cn) (t:Tx) (h:Int):Int × Int × Int:=
 if checkT t≠0 then (0,checkT t, -1) else if grantB t then (0,4, -1) else
 match t.ins.findIdx? fun x=>decide (inE v t h x≠0) with
 |some i=>(0,inE v t h (t.ins.getD i default),(i:Nat))
 |none=>if sumE (t.ins.map (inV v))≠0 then (0,sumE (t.ins.map (inV v)), -1) else
  if sumV (values t)>sumV (t.ins.map (inV v)) then (0,12, -1) else (sumV (t.ins.map (inV v)) - sumV (values t),0, -1)
end Go.K
end
section
namespace Go.Proofs.YtbidkcjendncaaaGreat
open Go Go.K
attribute [local irreducible] regK codeK retK KOp.wp K.Spec u32 leS vnS str zero32 sha2 encT idT sizeT checkT grantB
end Go.Proofs.YtbidkcjendncaaaGreat
end
section
namespace Go.K
open Go
variable {l:List Ent}
end Go.K
end
section
namespace Go.Proofs.YtbidkcjendncaaaGreat
open Go Go.K
attribute [local irreducible] regK codeK retK KOp.wp K.Spec u32 leS vnS str zero32 sha2 encT idT sizeT checkT grantB
end Go.Proofs.YtbidkcjendncaaaGreat
end
section
namespace Go.K
open Go Go.Proofs.YtbidkcjendncaaaGreat
section
variable {l:List Ent} {t:Tx}
end
end Go.K
end
section
namespace Go.K
open Go Go.Proofs.YtbidkcjendncaaaGreat
end Go.K
end
section
namespace Go.K
open Go
def refIdx (l:List En) (p:Pt):Option Nat:=l.findIdx? fun e=>decide (e.1=p)
def refFind (l:List En) (p:Pt):Int:=match refIdx l p with
 |some i=>i
 |none=> -1
theorem refIdx_none {l:List En} {p:Pt}:refIdx l p=none↔∀e∈l,e.1≠p:=by simp [refIdx,List.findIdx?_eq_none_iff]
theorem refIdx_some {l:List En} {p:Pt} {i:Nat}:refIdx l p=some i↔∃h:i<l.length,l[i].1=p∧∀j,∀hj:j<i,l[j].1≠p:=by
 rw [refIdx,List.findIdx?_eq_some_iff_getElem];simp
theorem tot_take {l:List En} {i:Nat} (h:i<l.length):tot (l.take (i+1))=tot (l.take i)+l[i].2.v:=by
 rw [List.take_succ_eq_append_getElem h,tot_append];simp
theorem tot_take_le {l:List En} (h:Mon l) (i:Nat):0≤tot (l.take i)∧tot (l.take i)≤tot l:=by
 have h1:0≤tot (l.take i):=Mon.pos fun e he=>h.1 e (List.mem_of_mem_take he)
 have h2:0≤tot (l.drop i):=Mon.pos fun e he=>h.1 e (List.mem_of_mem_drop he)
 have h3:tot l=tot (l.take i)+tot (l.drop i):=by rw [←tot_append,List.take_append_drop]
 omega
def insStep (p:Pt) (c:Cn) (s:List En × Bool) (e:En):List En × Bool:=if ptLt p e.1&&!s.2 then (s.1++ [(p,c)]++ [e],true) else (s.1++ [e],s.2)
def insRun (p:Pt) (c:Cn) (l:List En):List En × Bool:=l.foldl (insStep p c) ([],false)
def insEnd (p:Pt) (c:Cn) (l:List En):List En:=if (insRun p c l).2 then (insRun p c l).1 else (insRun p c l).1++ [(p,c)]
theorem insRun_take {p:Pt} {c:Cn} {l:List En} {i:Nat} (h:i<l.length):insRun p c (l.take (i+1))=insStep p c (insRun p c (l.take i)) l[i]:=by
 rw [List.take_succ_eq_append_getElem h,insRun,List.foldl_append];rfl
theorem insRun_len (p:Pt) (c:Cn) (l:List En):(insRun p c l).1.length≤l.length+1∧((insRun p c l).2=false→(insRun p c l).1.length=l.length):=by
 have key:∀(l:List En) (s:List En × Bool),(l.foldl (insStep p c) s).1.length+(if s.2 then 1 else 0)=s.1.length+l.length+(if (l.foldl (insStep p c) s).2 then 1 else 0):=by
  intro l
  induction l with
  |nil=>intro s;cases h:s.2<;>simp [h]
  |cons e l ih=>
   intro s
   rw [List.foldl_cons]
   have:=ih (insStep p c s e)
   rw [List.length_cons]
   unfold insStep at this ⊢
   by_cases h:ptLt p e.1=true
   ·cases hs:s.2
    ·simp [h,hs] at this ⊢;omega
    ·simp [h,hs] at this ⊢;omega
   ·simp [h] at this ⊢;omega
 have:=key l ([],false)
 simp only [List.length_nil,Nat.zero_add,Bool.false_eq_true,if_false,Nat.add_zero] at this
 unfold insRun
 constructor
 ·split at this<;>omega
 ·intro h;rw [h] at this;simpa using this
def refPutCode (l:List En) (p:Pt) (c:Cn):Int:=if formedB p c then (if (refIdx l p).isSome then 7 else if goodB (tot l+c.v) then 0 else 3) else 2
def refPut (l:List En) (p:Pt) (c:Cn):List En:=if refPutCode l p c=0 then insEnd p c l else l
def refTakeCode (l:List En) (p:Pt):Int:=if (refIdx l p).isSome then 0 else 8
def refTake (l:List En) (p:Pt):List En:=match refIdx l p with
 |some i=>l.eraseIdx i
 |none=>l
def refCoin (l:List En) (p:Pt):Cn:=match refIdx l p with
 |some i=>((l[i]?).map (·.2)).getD cn0
 |none=>cn0
theorem refCoin_some {l:List En} {p:Pt} {n:Nat} (h:refIdx l p=some n) (hn:n<l.length):refCoin l p=l[n].2:=by
 unfold refCoin;rw [h];simp [List.getElem?_eq_getElem hn]
theorem refTakeCode_some {l:List En} {p:Pt} {n:Nat} (h:refIdx l p=some n):refTakeCode l p=0:=by rw [refTakeCode,h];rfl
theorem refPutCode2 {l:List En} {p:Pt} {c:Cn} (h:formedB p c=false):refPutCode l p c=2:=by rw [refPutCode,h];rfl
theorem refPutCode7 {l:List En} {p:Pt} {c:Cn} {n:Nat} (h:formedB p c=true) (hd:refIdx l p=some n):refPutCode l p c=7:=by rw [refPutCode,h,hd];rfl
theorem refPutCode0 {l:List En} {p:Pt} {c:Cn} (h:formedB p c=true) (hd:refIdx l p=none):refPutCode l p c=if goodB (tot l+c.v) then 0 else 3:=by rw [refPutCode,h,hd];rfl
theorem insRun_put {p:Pt} {c:Cn} {l:List En} {i:Nat} (h:i<l.length) (h1:ptLt p l[i].1=true) (h2:(insRun p c (l.take i)).2=false):insRun p c (l.take (i+1))=((insRun p c (l.take i)).1++ [(p,c)]++ [l[i]],true):=by
 rw [insRun_take h,insStep,h1,h2];rfl
theorem insRun_not {p:Pt} {c:Cn} {l:List En} {i:Nat} (h:i<l.length) (h1:ptLt p l[i].1=false∨(insRun p c (l.take i)).2=true):insRun p c (l.take (i+1))=((insRun p c (l.take i)).1++ [l[i]],(insRun p c (l.take i)).2):=by
 rw [insRun_take h,insStep]
 rcases h1 with h1|h1<;>rw [h1]<;>simp
theorem erase_take {l:List En} {i n:Nat} (h:i<l.length):(l.take (i+1)).eraseIdx n=if i=n then (l.take i).eraseIdx n else (l.take i).eraseIdx n++ [l[i]]:=by
 rw [List.take_succ_eq_append_getElem h]
 by_cases e:i=n
 ·subst e
  rw [if_pos rfl,List.eraseIdx_append_of_length_le (by simp;omega)]
  have e1:i - (l.take i).length=0:=by simp;omega
  rw [e1,List.eraseIdx_of_length_le (l:=l.take i) (by simp;omega)];simp
 ·rw [if_neg e]
  by_cases hl:i<n
  ·rw [List.eraseIdx_of_length_le (by simp;omega),List.eraseIdx_of_length_le (by simp;omega)]
  ·rw [List.eraseIdx_append_of_lt_length (by simp;omega)]
def Srt (l:List En):Prop:=l.Pairwise fun a b=>ptLt a.1 b.1=true
theorem sorted_eq:∀{l' l:List En},l'.Perm l→l'.Pairwise (fun a b=>ptLt b.1 a.1=false)→Srt l→l'=l
 | [],l,hp,_,_=>by rw [List.nil_perm.1 hp]
 |y::ys, [],hp,_,_=>by have:=hp.length_eq;simp at this
 |y::ys,x::xs,hp,h1,h2=>by
  have h2':=List.pairwise_cons.1 h2
  have h1':=List.pairwise_cons.1 h1
  have e:y=x:=by
   have hy:y∈x::xs:=hp.mem_iff.1 (by simp)
   have hx:x∈y::ys:=hp.mem_iff.2 (by simp)
   rcases List.mem_cons.1 hy with h|h
   ·exact h
   ·rcases List.mem_cons.1 hx with g|g
    ·exact g.symm
    ·have a:=h2'.1 y h
     have b:=h1'.1 x g
     rw [a] at b;cases b
  subst e
  rw [sorted_eq (List.Perm.cons_inv hp) h1'.2 h2'.2]
end Go.K
end
section
namespace Go.K
open Go
theorem srt_nodup {l:List En} (h:Srt l):(l.map (·.1)).Nodup:=by
 rw [List.Nodup,List.pairwise_map]
 exact h.imp fun hab e=>by rw [e,ptLt_irrefl] at hab;cases hab
theorem mem_aget {m:List En} {p:Pt} {c:Cn} (hn:(m.map (·.1)).Nodup) (h:(p,c)∈m):aget m p=some c:=by
 induction m with
 |nil=>cases h
 |cons e m ih=>
  simp only [List.map_cons,List.nodup_cons] at hn
  rw [aget_cons]
  rcases List.mem_cons.1 h with h|h
  ·subst h;simp
  ·rw [if_neg,ih hn.2 h]
   intro e1
   exact hn.1 (e1▸List.mem_map_of_mem (f:=(·.1)) h)
theorem aget_perm {m l:List En} (hp:m.Perm l) (hs:Srt l) (p:Pt):aget m p=aget l p:=by
 have hl:=srt_nodup hs
 have hm:(m.map (·.1)).Nodup:=(hp.map _).nodup_iff.2 hl
 cases h:aget l p with
 |some c=>exact mem_aget hm (hp.mem_iff.2 (aget_mem h))
 |none=>
  cases h2:aget m p with
  |none=>rfl
  |some c=>rw [mem_aget hl (hp.mem_iff.1 (aget_mem h2))] at h;cases h
theorem aget_some_idx {l:List En} {p:Pt} {n:Nat} (h:refIdx l p=some n) (hn:n<l.length):aget l p=some l[n].2:=by
 rw [aget_idx];unfold refIdx at h;rw [h];simp [List.getElem?_eq_getElem hn]
theorem aget_none_idx {l:List En} {p:Pt} (h:refIdx l p=none):aget l p=none:=by
 rw [aget_idx];unfold refIdx at h;rw [h];rfl
theorem idx_lt {l:List En} {p:Pt} {n:Nat} (h:refIdx l p=some n):n<l.length:=(refIdx_some.1 h).1
theorem isSome_idx (l:List En) (p:Pt):(aget l p).isSome=(refIdx l p).isSome:=by
 cases h:refIdx l p with
 |none=>rw [aget_none_idx h];rfl
 |some n=>rw [aget_some_idx h (idx_lt h)];rfl
section
variable {m l:List En} (hp:m.Perm l) (hs:Srt l)
include hp hs
theorem take_code (p:Pt):takeCode m p=refTakeCode l p:=by
 rw [takeCode,refTakeCode,aget_perm hp hs,isSome_idx]
theorem take_coin (p:Pt):takeCoin m p=refCoin l p:=by
 rw [takeCoin,aget_perm hp hs]
 cases h:refIdx l p with
 |none=>rw [aget_none_idx h,refCoin,h];rfl
 |some n=>rw [aget_some_idx h (idx_lt h),refCoin_some h (idx_lt h)];rfl
theorem put_code (p:Pt) (c:Cn):putCode m p c=refPutCode l p c:=by
 rw [putCode,refPutCode,aget_perm hp hs,isSome_idx,tot_perm hp]
end
theorem refTake_adel {l:List En} (hs:Srt l) (p:Pt):refTake l p=adel l p:=by
 unfold refTake
 cases h:refIdx l p with
 |none=>exact (adel_absent (by unfold refIdx at h;exact h)).symm
 |some n=>exact (adel_present (srt_nodup hs) (by unfold refIdx at h;exact h)).symm
theorem take_sim {m l:List En} (hp:m.Perm l) (hs:Srt l) (p:Pt):(takeMap m p).Perm (refTake l p)∧Srt (refTake l p)∧(refTake l p).length≤l.length:=by
 rw [refTake_adel hs,takeMap]
 refine ⟨hp.filter _,?_,List.length_filter_le _ _⟩
 exact List.Pairwise.sublist List.filter_sublist hs
def ins (p:Pt) (c:Cn):List En→List En
 | []=> [(p,c)]
 |e::l=>if ptLt p e.1 then (p,c)::e::l else e::ins p c l
theorem run_true (p:Pt) (c:Cn):∀(l out:List En),l.foldl (insStep p c) (out,true)=(out++l,true)
 | [],out=>by simp
 |e::l,out=>by
  rw [List.foldl_cons]
  have:insStep p c (out,true) e=(out++ [e],true):=by simp [insStep]
  rw [this,run_true p c l];simp
theorem run_false (p:Pt) (c:Cn):∀(l out:List En),(let s:=l.foldl (insStep p c) (out,false);if s.2 then s.1 else s.1++ [(p,c)])=out++ins p c l
 | [],out=>by simp [ins]
 |e::l,out=>by
  rw [List.foldl_cons]
  by_cases h:ptLt p e.1=true
  ·have:insStep p c (out,false) e=(out++ [(p,c)]++ [e],true):=by simp [insStep,h]
   rw [this,run_true]
   simp [ins,h]
  ·have h:ptLt p e.1=false:=by simpa using h
   have:insStep p c (out,false) e=(out++ [e],false):=by simp [insStep,h]
   rw [this,run_false p c l]
   simp [ins,h]
theorem insEnd_eq (p:Pt) (c:Cn) (l:List En):insEnd p c l=ins p c l:=by
 have:=run_false p c l []
 rw [List.nil_append] at this
 exact this
theorem ins_perm (p:Pt) (c:Cn):∀l:List En,(ins p c l).Perm ((p,c)::l)
 | []=>List.Perm.refl _
 |e::l=>by
  unfold ins
  split
  ·exact List.Perm.refl _
  ·exact ((ins_perm p c l).cons e).trans (List.Perm.swap _ _ _)
theorem ins_srt (p:Pt) (c:Cn):∀{l:List En},Srt l→(∀e∈l,e.1≠p)→Srt (ins p c l)
 | [],_,_=>by simp [ins,Srt]
 |e::l,hs,hn=>by
  have hs':=List.pairwise_cons.1 hs
  unfold ins
  split
  ·rename_i h
   refine List.pairwise_cons.2 ⟨fun x hx=>?_,hs⟩
   rcases List.mem_cons.1 hx with h1|h1
   ·rw [h1];exact h
   ·exact ptLt_trans h (hs'.1 x h1)
  ·rename_i h
   refine List.pairwise_cons.2 ⟨fun x hx=>?_,ins_srt p c hs'.2 (fun x hx=>hn x (by simp [hx]))⟩
   rcases List.mem_cons.1 ((ins_perm p c l).mem_iff.1 hx) with h1|h1
   ·rw [h1]
    cases h2:ptLt e.1 p
    ·exact absurd (ptLt_tri h2 (by simpa using h)) (hn e (by simp))
    ·rfl
   ·exact hs'.1 x h1
theorem put_sim {m l:List En} (hp:m.Perm l) (hs:Srt l) (p:Pt) (c:Cn):(putMap m p c).Perm (refPut l p c)∧Srt (refPut l p c)∧(refPut l p c).length≤l.length+1:=by
 have hc:=put_code hp hs p c
 unfold putMap refPut
 rw [hc]
 split
 ·rename_i h0
  rw [insEnd_eq]
  have hi:refIdx l p=none:=by
   unfold refPutCode at h0
   cases h:refIdx l p with
   |none=>rfl
   |some n=>
    rw [h] at h0
    simp only [Option.isSome_some,if_true] at h0
    split at h0<;>omega
  have h1:=ins_perm p c l
  refine ⟨?_,ins_srt p c hs (refIdx_none.1 hi),by rw [h1.length_eq];simp⟩
  refine List.Perm.trans ?_ h1.symm
  exact (List.perm_append_singleton (p,c) m).trans (hp.cons _)
 ·exact ⟨hp,hs,by omega⟩
end Go.K
end
