/- The engine, part 14: short names of steps; facts carried on. -/
import Derived.Lib.Bytealg
import Derived.Lib.OthersKept
import Derived.Test.YtfebcajheojodaaGreatDoorZ8
set_option linter.unusedVariables false
set_option linter.unusedSimpArgs false
namespace Go.K
section
open Go
theorem SlE.x {α:Type} {E:Enc α} {w w':World} {v:Value} {l:List α} (c:Ext w w') (h:SlE E w v l):SlE E w' v l:=h.ext c
theorem SlR.x {α:Type} {E:R α} {M:List Nat} {w w':World} {v:Value} {l:List α} (c:Ext w w') (h:SlR E M w v l):SlR E M w' v l:=h.ext c
theorem cJ.x {α:Type} {E:R α} {t:TypeId} {B:Nat} {M:List Nat} {w w':World} {v:Value} {l:List α} (c:Ext w w') (h:cJ E t B M w v l):cJ E t B M w' v l:=h.ext c
theorem R.x {α:Type} {E:R α} {M:List Nat} {w w':World} {cs:List Value} {x:α} (c:Ext w w') (h:E.rel M w cs x):E.rel M w' cs x:=E.step h c (by simp) (fun _ h=>.inl h)
theorem nG.x {κ β:Type} [DecidableEq κ] {KE:KEnc κ} {F:R β} {M:List Nat} {w w':World} {b:Nat} {m:List (κ × β)} (c:Ext w w') (h:nG KE F M w b m):nG KE F M w' b m:=h.ext c
theorem Ext.c {w w' w'':World} (c:Ext w' w'') (h:Ext w w'):Ext w w'':=h.trans c
theorem bPy {w w':World} {n:Nat} (c:Ext w w') (h:n≤w.heap.size):n≤w'.heap.size:=nTr h c.size
section
variable {P:Program} {d:Option Tmp} {r:KR} {K:Env→World→Prop} {ρ:Env} {w:World}
theorem bPb {o:KOp} {t:Tmp} {b:Bool} (h:ρ t=.bool b) (k:aO P (.cons ⟨d,o,none⟩ r) K ρ w):aO P (.cons ⟨d,o,some (t,b)⟩ r) K ρ w:=bPa (by simp [lT,h]) k
theorem bNe {o:KOp} {t:Tmp} {b c:Bool} (h:ρ t=.bool c) (hc:(c==b)=false) (k:aO P r K (put ρ d undef) w):aO P (.cons ⟨d,o,some (t,b)⟩ r) K ρ w:=bJ5 (by simp [lT,h,hc]) k
theorem bN1 {o:KOp} {t:Tmp} {b:Bool} (h:ρ t=undef) (k:aO P r K (put ρ d undef) w):aO P (.cons ⟨d,o,some (t,b)⟩ r) K ρ w:=bJ5 (by simp [lT,h,undef]) k
end
abbrev z0:=@bLm
abbrev z1:=@bNh
abbrev z2:=@bPa
abbrev z3:=@bJ5
abbrev z4:=@aUf
abbrev z5:=@bHz
abbrev z6:=@bNw
abbrev z7:=@dK
abbrev z8:=@bN2
abbrev z9:=@bI5
abbrev za:=@bM1
abbrev zb:=@bNm
abbrev zc:=@mD
abbrev zd:=@bM5
abbrev ze:=@bN6
abbrev zf:=@bNu
abbrev zg:=@bK0
abbrev zh:=@bOp
abbrev zi:=@bNc
abbrev zj:=@bMt
abbrev zk:=@bK4
abbrev zl:=@bN7
abbrev zm:=@bOk
abbrev zn:=@bN4
abbrev zo:=@bM7
abbrev zp:=@bAu
abbrev zq:=@aV6
abbrev zr:=@bKr
abbrev zs:=@aV8
abbrev zt:=@aUa
abbrev zu:=@aQ7
abbrev zv:=@bOa
abbrev zw:=@bB9
abbrev zx:=@aXm
abbrev zy:=@bMz
abbrev zz:=@aI5
abbrev zA:=@bCy
abbrev zB:=@fR
abbrev zC:=@aAy
abbrev zD:=@uC
abbrev zE:=@bJt
abbrev zF:=@bOr
abbrev zG:=@vQ
abbrev zH:=@aXy
abbrev zI:=@jG
abbrev zJ:=@qE
abbrev zK:=@aUq
abbrev zL:=@aGd
abbrev zM:=@zW
abbrev zN:=@bCn
abbrev zO:=@bPb
abbrev zP:=@bNe
abbrev zQ:=@bN1
end
section
open Go
def bX (a:Int):Bool:=decide (0≤a∧a≤2100000000000000)
theorem bG (a:Int):bX a=true↔0≤a∧a≤2100000000000000:=by simp [bX]
def iQ (a b:Int):Bool:=bX a&&bX b&&bX (a+b)
abbrev W32:=BitVec 32
def u32 (x:W32):Value:=.int .u32 (x.toNat:Nat)
theorem wrap32 (m:Int):IntKind.u32.wrap m=m%4294967296:=rfl
theorem lB (x:W32):BitVec.ofInt 32 (x.toNat:Nat)=x:=by
 apply BitVec.eq_of_toNat_eq
 simp [BitVec.toNat_ofInt]
theorem aIa {op:BinOp} {a b:W32} {c:W32} (h:dL op .u32 (a.toNat:Nat) (b.toNat:Nat)=some (.int .u32 (c.toNat:Nat))) (hs:dX op=false):cC op (u32 a) (u32 b)=some (u32 c):=by
 simp only [u32,cC,hs,Bool.false_eq_true,if_false,if_true];exact h
theorem aI9 (c:W32):IntKind.u32.wrap (c.toNat:Nat)=(c.toNat:Nat):=by
 rw [wrap32];exact Int.emod_eq_of_lt (by omega) (by have:=c.isLt;omega)
theorem bLb (a b:W32):cC .add (u32 a) (u32 b)=some (u32 (a+b)):=aIa (by
 simp only [dL,wrap32,BitVec.toNat_add]
 exact congrArg some (congrArg (Value.int .u32) (by omega))) rfl
theorem bKv (a b:W32):cC .and (u32 a) (u32 b)=some (u32 (a&&& b)):=aIa (by
 simp only [dL,IntKind.bits];rw [lB,lB]
 exact congrArg some (congrArg (Value.int .u32) (aI9 (a&&& b)))) rfl
theorem bBw (a b:W32):cC .or (u32 a) (u32 b)=some (u32 (a|||b)):=aIa (by
 simp only [dL,IntKind.bits];rw [lB,lB]
 exact congrArg some (congrArg (Value.int .u32) (aI9 (a|||b)))) rfl
theorem bLf (a b:W32):cC .xor (u32 a) (u32 b)=some (u32 (a^^^b)):=aIa (by
 simp only [dL,IntKind.bits];rw [lB,lB]
 exact congrArg some (congrArg (Value.int .u32) (aI9 (a^^^b)))) rfl
theorem aVc (a:W32) (k:IntKind) (n:Nat) (h:n<32):cC .shr (u32 a) (.int k (n:Nat))=some (u32 (a>>>n)):=by
 simp only [u32,cC,dX,if_true]
 rw [if_neg (by omega)]
 have e:min ((n:Int).toNat) IntKind.u32.bits=n:=by simp [IntKind.bits];omega
 simp only [e,BitVec.toNat_ushiftRight,Nat.shiftRight_eq_div_pow]
 congr 2
 rw [Int.fdiv_eq_ediv_of_nonneg _ (by exact_mod_cast Nat.zero_le _)]
 norm_cast
theorem aTn (a:W32) (k:IntKind) (n:Nat) (h:n<32):cC .shl (u32 a) (.int k (n:Nat))=some (u32 (a<<<n)):=by
 simp only [u32,cC,dX,if_true]
 rw [if_neg (by omega)]
 have e:min ((n:Int).toNat) IntKind.u32.bits=n:=by simp [IntKind.bits];omega
 simp only [e,BitVec.toNat_shiftLeft,Nat.shiftLeft_eq,wrap32]
 congr 2
def rot (x:W32) (n:Nat):W32:=x>>>n|||x<<<(32 - n)
theorem bKi (n:Nat) (h0:0<n) (h:n<32):cC .and (.int .u64 (IntKind.u64.wrap (-(n:Int)))) (.int .u64 31)=some (.int .u64 ((32 - n:Nat):Int)):=by
 have key:∀n:Nat,n<32→0<n→IntKind.u64.wrap (BitVec.ofInt 64 (IntKind.u64.wrap (-(n:Int)))&&& BitVec.ofInt 64 31).toNat=((32 - n:Nat):Int):=by decide+kernel
 simp only [cC,dX,Bool.false_eq_true,if_false,if_true,dL,IntKind.bits]
 exact congrArg some (congrArg (Value.int .u64) (key n h h0))
def aTk:List Value→Option Value
 | [.int .i64 a]=>some (.bool (bX a))
 |_=>none
def aSo (m:Int):List Value→Option Value
 | [.int .i64 a,.int .i64 b]=>some (.bool (decide (m≤a∧a≤b)))
 |_=>none
def bNo:=aSo 0
def bNr:=aSo 1
def bAb (k:IntKind):List Value→Option Value
 | [.int .u32 a,.int k' n]=>if k'=k∧0≤a∧a<4294967296∧0<n∧n<32 then some (u32 (rot (BitVec.ofInt 32 a) n.toNat)) else none
 |_=>none
def bOe:=bAb .i64
def bOy:=bAb .u64
theorem fI (x:W32) (k:IntKind) (n:Nat) (h0:0<n) (h:n<32):bAb k [u32 x,.int k (n:Nat)]=some (u32 (rot x n)):=by
 have:=x.isLt
 simp only [bAb,u32]
 rw [if_pos (by simp;omega),lB];rfl
theorem qG (a:Int):aTk [.int .i64 a]=some (.bool (bX a)):=rfl
theorem qF (m a b:Int):aSo m [.int .i64 a,.int .i64 b]=some (.bool (decide (m≤a∧a≤b))):=rfl
attribute [irreducible] aTk aSo bAb
end
section
open Go
structure Pt where
 s:ByteArray
 i:Int
deriving DecidableEq
structure Cn where
 v:Int
 s:ByteArray
 h:Int
deriving DecidableEq
instance:Inhabited Pt:=⟨⟨⟨#[]⟩,0⟩⟩
instance:Inhabited Cn:=⟨⟨0,⟨#[]⟩,0⟩⟩
def Pt.cs (p:Pt):List Value:= [.string p.s,.int .u32 p.i]
def Pt.val (p:Pt):Value:=.agg #[.string p.s,.int .u32 p.i]
def Cn.cs (c:Cn):List Value:= [.int .i64 c.v,.string c.s,.int .i64 c.h]
def Cn.val (c:Cn):Value:=.agg #[.int .i64 c.v,.string c.s,.int .i64 c.h]
def eG (p:Pt) (c:Cn):Bool:=decide (p.s.size=32)&&decide (0≤c.h)&&decide (c.h≤1000000)&&bX c.v
theorem aSr:∀a:List UInt8,Op.bytesLess a a=false
 | []=>rfl
 |a::l=>by simp [Op.bytesLess,aSr l]
theorem aWn:∀a b c:List UInt8,Op.bytesLess a b=true→Op.bytesLess b c=true→Op.bytesLess a c=true
 |_, [],_,h,_=>by cases ‹List UInt8›<;>simp [Op.bytesLess] at h
 |_,_::_, [],_,h=>by simp [Op.bytesLess] at h
 | [],_::_,_::_,_,_=>by simp [Op.bytesLess]
 |a::x,b::y,c::z,h,h'=>by
  simp only [Op.bytesLess,Bool.or_eq_true,decide_eq_true_eq,Bool.and_eq_true,beq_iff_eq] at h h' ⊢
  rcases h with h|⟨rfl,h⟩
  ·rcases h' with h'|⟨rfl,h'⟩
   ·exact .inl (UInt8.lt_trans h h')
   ·exact .inl h
  ·rcases h' with h'|⟨rfl,h'⟩
   ·exact .inl h'
   ·exact .inr ⟨rfl,aWn x y z h h'⟩
theorem bGy:∀a b:List UInt8,Op.bytesLess a b=false→Op.bytesLess b a=false→a=b
 | [], [],_,_=>rfl
 | [],_::_,h,_=>by simp [Op.bytesLess] at h
 |_::_, [],_,h=>by simp [Op.bytesLess] at h
 |a::x,b::y,h,h'=>by
  simp only [Op.bytesLess,Bool.or_eq_false_iff,decide_eq_false_iff_not,Bool.and_eq_false_iff,beq_eq_false_iff_ne] at h h'
  have e:a=b:=by
   have h1:=h.1;have h2:=h'.1
   rw [UInt8.lt_iff_toNat_lt] at h1 h2
   exact UInt8.toNat_inj.1 (by omega)
  subst e
  rcases h.2 with h1|h1
  ·exact absurd rfl h1
  rcases h'.2 with h2|h2
  ·exact absurd rfl h2
  rw [bGy x y h1 h2]
theorem aLy (a:ByteArray):a.data.toList=a.toList:=(Lib.toList_data a).symm
theorem toList_inj {a b:ByteArray} (h:a.toList=b.toList):a=b:=by
 rw [←aLy,←aLy] at h
 exact ByteArray.ext (Array.toList_inj.1 h)
def uM (p q:Pt):Bool:=if p.s=q.s then decide (p.i<q.i) else Op.bytesLess p.s.toList q.s.toList
theorem aVr (p:Pt):uM p p=false:=by simp [uM]
theorem aZ2 {p q r:Pt} (h:uM p q=true) (h':uM q r=true):uM p r=true:=by
 unfold uM at*
 by_cases h1:p.s=q.s
 ·rw [if_pos h1] at h
  by_cases h2:q.s=r.s
  ·rw [if_pos h2] at h'
   rw [if_pos (h1.trans h2)]
   simp at h h' ⊢;omega
  ·rw [if_neg h2] at h'
   rw [if_neg (by rw [h1];exact h2),h1];exact h'
 ·rw [if_neg h1] at h
  by_cases h2:q.s=r.s
  ·rw [if_neg (by rw [←h2];exact h1),←h2];exact h
  ·rw [if_neg h2] at h'
   have h3:=aWn _ _ _ h h'
   by_cases h4:p.s=r.s
   ·rw [h4,aSr] at h3;cases h3
   ·rw [if_neg h4];exact h3
theorem bHx {p q:Pt} (h:uM p q=false) (h':uM q p=false):p=q:=by
 unfold uM at*
 by_cases h1:p.s=q.s
 ·rw [if_pos h1] at h;rw [if_pos h1.symm] at h'
  simp at h h'
  cases p;cases q;simp only [Pt.mk.injEq] at*;exact ⟨h1,by omega⟩
 ·rw [if_neg h1] at h;rw [if_neg (fun e=>h1 e.symm)] at h'
  exact absurd (toList_inj (bGy _ _ h h')) h1
end
section
open Go
abbrev En:=Pt × Cn
def gC:Enc En:=⟨fun e=>e.1.cs++e.2.cs,5,fun _=>rfl,by decide,by
 intro x v hv
 simp [Pt.cs,Cn.cs] at hv
 rcases hv with rfl|rfl|rfl|rfl|rfl<;>rfl⟩
def En.val (e:En):Value:=.agg #[.string e.1.s,.int .u32 e.1.i,.int .i64 e.2.v,.string e.2.s,.int .i64 e.2.h]
def ptK:KEnc Pt:=⟨Pt.val,true, [.s,.i],by
 intro a b
 cases a;cases b
 simp [Pt.val,aBc,dE,lG,Pt.mk.injEq]
 ,fun a=>rfl⟩
def tot (m:List En):Int:=(m.map (·.2.v)).sum
@[simp] theorem bPn:tot []=0:=rfl
@[simp] theorem aI0 (e:En) (m:List En):tot (e::m)=e.2.v+tot m:=by simp [tot]
@[simp] theorem eT (l m:List En):tot (l++m)=tot l+tot m:=by simp [tot]
theorem bGv {l m:List En} (h:l.Perm m):tot l=tot m:=by
 induction h with
 |nil=>rfl
 |cons x _ ih=>simp [ih]
 |swap x y l=>simp;omega
 |trans _ _ h1 h2=>exact h1.trans h2
def Mon (m:List En):Prop:=(∀e∈m,0≤e.2.v)∧tot m≤2100000000000000
theorem Mon.nil:Mon []:=⟨by simp,by simp⟩
theorem Mon.pos:∀{m:List En},(∀e∈m,0≤e.2.v)→0≤tot m
 | [],_=>by simp
 |e::m,h=>by
  have h1:=h e (by simp)
  have h2:=Mon.pos (m:=m) (fun x hx=>h x (by simp [hx]))
  simp;omega
theorem Mon.le:∀{m:List En},(∀e∈m,0≤e.2.v)→∀e∈m,e.2.v≤tot m
 |e'::m,h,e,he=>by
  have h2:=Mon.pos (m:=m) (fun x hx=>h x (by simp [hx]))
  simp only [List.mem_cons] at he
  rcases he with rfl|he
  ·simp;omega
  ·have:=Mon.le (m:=m) (fun x hx=>h x (by simp [hx])) e he
   have h1:=h e' (by simp)
   simp;omega
theorem Mon.good {m:List En} (h:Mon m):bX (tot m)=true:=(bG _).2 ⟨Mon.pos h.1,h.2⟩
theorem tV {κ β:Type} [DecidableEq κ] {m:List (κ × β)} {k:κ} {v:β} (h:aS m k=some v):(k,v)∈m:=by
 unfold aS at h
 obtain ⟨p,hp,rfl⟩:=Option.map_eq_some_iff.1 h
 have h1:=List.mem_of_find?_eq_some hp
 have h2:=List.find?_some hp
 simp only [decide_eq_true_eq] at h2
 subst h2;exact h1
def sZ (t:TypeId) (w:World) (b mb:Nat) (m:List En):Prop:=
 At w b (.cells [Value.map (some mb),.int .i64 (tot m)].toArray t (0,0))∧dW ptK Cn.val w mb m∧Mon m
section
variable {t:TypeId} {w w':World} {b mb:Nat} {m:List En}
theorem sZ.at_ (h:sZ t w b mb m):At w b (.cells [Value.map (some mb),.int .i64 (tot m)].toArray t (0,0)):=h.1
theorem sZ.row (h:sZ t w b mb m):Row w ⟨b,0,none⟩ [Value.map (some mb),.int .i64 (tot m)]:=Row.of_at h.1
theorem sZ.ne (h:sZ t w b mb m):b≠mb:=by
 obtain ⟨h1,⟨es,clock,h2,_⟩,_⟩:=h
 exact h1.ne h2 (by simp)
theorem sZ.chg {l:List Nat} (hc:Chg l w w') (h:sZ t w b mb m) (h1:b∉l) (h2:mb∉l):sZ t w' b mb m:=⟨h.1.chg hc h1,h.2.1.chg hc h2,h.2.2⟩
theorem sZ.ext (hc:Ext w w') (h:sZ t w b mb m):sZ t w' b mb m:=h.chg hc (by simp) (by simp)
end
def gJ (m:List En) (p:Pt) (c:Cn):Int:=if eG p c then (if (aS m p).isSome then 7 else if bX (tot m+c.v) then 0 else 3) else 2
def wK (m:List En) (p:Pt) (c:Cn):List En:=if gJ m p c=0 then m++ [(p,c)] else m
def cn0:Cn:=⟨0,⟨#[]⟩,0⟩
def aJl (m:List En) (p:Pt):Cn:=(aS m p).getD cn0
theorem aSl {κ β:Type} [DecidableEq κ] (e:κ × β) (m:List (κ × β)) (k:κ):kW (e::m) k=if e.1=k then kW m k else e::kW m k:=by
 unfold kW;rw [List.filter_cons];by_cases h:e.1=k<;>simp [h]
theorem bJn {κ β:Type} [DecidableEq κ] {m:List (κ × β)} {k:κ} (h:k∉m.map (·.1)):kW m k=m:=by
 unfold kW
 rw [List.filter_eq_self]
 intro a ha
 simp only [decide_eq_true_eq]
 rintro rfl
 exact h (List.mem_map_of_mem ha)
theorem aS7 {κ β:Type} [DecidableEq κ] (e:κ × β) (m:List (κ × β)) (k:κ):aS (e::m) k=if e.1=k then some e.2 else aS m k:=by
 unfold aS;rw [List.find?_cons];by_cases h:e.1=k<;>simp [h]
theorem bDb:∀{m:List En} {p:Pt} {c:Cn},(m.map (·.1)).Nodup→aS m p=some c→tot (kW m p)=tot m - c.v
 |(q,d)::m,p,c,hn,h=>by
  simp only [List.map_cons,List.nodup_cons] at hn
  rw [aS7] at h
  rw [aSl]
  by_cases e:q=p
  ·subst e
   simp at h
   subst h
   rw [if_pos rfl,bJn hn.1];simp;omega
  ·rw [if_neg e] at h ⊢
   have ih:=bDb hn.2 h
   simp [ih];omega
theorem Mon.del {m:List En} (h:Mon m) (p:Pt):Mon (kW m p):=by
 have hs:∀e∈kW m p,0≤e.2.v:=fun e he=>h.1 e (List.mem_filter.1 he).1
 refine ⟨hs,?_⟩
 have key:∀l:List En,(∀e∈l,0≤e.2.v)→tot (kW l p)≤tot l:=by
  intro l
  induction l with
  |nil=>intro _;simp [kW]
  |cons e l ih=>
   intro hl
   have h1:=hl e (by simp)
   have h2:=ih (fun x hx=>hl x (by simp [hx]))
   rw [aSl]
   split<;>simp<;>omega
 have:=key m h.1;have:=h.2;omega
theorem Mon.put {m:List En} (h:Mon m) {p:Pt} {c:Cn} (hc:gJ m p c=0):Mon (m++ [(p,c)]):=by
 unfold gJ at hc
 split at hc
 ·rename_i hf
  split at hc
  ·cases hc
  ·split at hc
   ·rename_i hg
    have h1:=(bG _).1 hg
    have h2:bX c.v=true:=by simp only [eG,Bool.and_eq_true] at hf;exact hf.2
    have h3:=(bG _).1 h2
    exact ⟨fun e he=>by
     rcases List.mem_append.1 he with he|he
     ·exact h.1 e he
     ·simp at he;subst he;exact h3.1,by simp;omega⟩
   ·cases hc
 ·cases hc
theorem bF5 {κ β:Type} [DecidableEq κ] {m:List (κ × β)} {k:κ} {v:β} (h:aS m k=none):fN m k v=m++ [(k,v)]:=by
 apply qZ
 unfold aS at h
 simp only [Option.map_eq_none_iff,List.find?_eq_none] at h
 rw [List.findIdx?_eq_none_iff]
 intro x hx
 simpa using h x hx
theorem bJ2 {m:List En} {p:Pt} {c:Cn} (h:eG p c=false):gJ m p c=2:=by rw [gJ,h];rfl
theorem bJi {m:List En} {p:Pt} {c d:Cn} (h:eG p c=true) (hd:aS m p=some d):gJ m p c=7:=by rw [gJ,h,hd];rfl
theorem aZa {m:List En} {p:Pt} {c:Cn} (h:eG p c=true) (hd:aS m p=none) (hm:Mon m):gJ m p c=if iQ (tot m) c.v then 0 else 3:=by
 have h2:bX c.v=true:=by simp only [eG,Bool.and_eq_true] at h;exact h.2
 rw [gJ,h,hd];simp only [iQ,hm.good,h2,Bool.true_and];rfl
end
end Go.K
section
namespace Go.K
open Go
def leL (n:Nat):Nat→List UInt8
 |0=> []
 |k+1=>leL n k++ [UInt8.ofNat (n / 256^k)]
theorem cY (n:Nat):∀k,(leL n k).length=k
 |0=>rfl
 |k+1=>by simp [leL,cY n k]
def str (l:List UInt8):ByteArray:=⟨l.toArray⟩
theorem gZ (l:List UInt8):(str l).size=l.length:=by simp [str,ByteArray.size]
theorem pN (l m:List UInt8):str l++str m=str (l++m):=by
 apply ByteArray.ext;simp [str,ByteArray.data_append]
theorem bCq:str []=⟨#[]⟩:=rfl
def leS (n k:Nat):ByteArray:=str (leL n k)
theorem bG4 (n:Nat):leS n 0=⟨#[]⟩:=rfl
theorem tm (m n:Nat):Int.tmod (m:Int) (n:Int)=((m%n:Nat):Int):=by rw [Int.tmod_eq_emod_of_nonneg (by omega)];rfl
theorem td (m n:Nat):Int.tdiv (m:Int) (n:Int)=((m / n:Nat):Int):=by rw [Int.tdiv_eq_ediv_of_nonneg (by omega)];rfl
theorem bI7 (n i:Nat):leS n (i+1)=leS n i++str [UInt8.ofNat (n / 256^i)]:=by rw [leS,leS,pN];rfl
theorem bNp:leS 253 1=⟨#[253]⟩:=rfl
theorem bNl:leS 254 1=⟨#[254]⟩:=rfl
theorem bNn:leS 255 1=⟨#[255]⟩:=rfl
theorem cR (n k:Nat):(leS n k).size=k:=by rw [leS,gZ,cY]
def vnS (n:Nat):ByteArray:=
 if n<253 then leS n 1 else if n<65536 then leS 253 1++leS n 2 else if n<4294967296 then leS 254 1++leS n 4 else leS 255 1++leS n 8
theorem dY (n:Nat):(vnS n).size≤9:=by
 unfold vnS
 repeat' split
 all_goals simp [ByteArray.size_append,cR]
def u8E:Enc UInt8:=⟨fun b=> [.int .u8 (b.toNat:Nat)],1,fun _=>rfl,by decide,by intro x v hv;simp at hv;subst hv;rfl⟩
def bO:Enc ByteArray:=⟨fun s=> [.string s],1,fun _=>rfl,by decide,by intro x v hv;simp at hv;subst hv;rfl⟩
def aJf:Enc Int:=⟨fun n=> [.int .i64 n],1,fun _=>rfl,by decide,by intro x v hv;simp at hv;subst hv;rfl⟩
theorem aUd (l:List UInt8):u8E.flat l=l.map fun b:UInt8=>Value.int .u8 b.toNat:=by
 induction l with
 |nil=>rfl
 |cons x l ih=>simp only [Enc.flat,List.flatMap_cons] at ih ⊢;rw [ih];rfl
theorem aEf (n:Nat):IntKind.u8.wrap (n:Int)=((UInt8.ofNat n).toNat:Int):=by
 have h:IntKind.u8.wrap (n:Int)=(n:Int)%256:=rfl
 rw [h];simp
theorem fF {n:Int} (h0:0≤n) (h:n<18446744073709551616):IntKind.u64.wrap n=n:=Int.emod_eq_of_lt h0 h
variable {P:Program} {d:Option Tmp} {r:KR} {K:Env→World→Prop} {ρ:Env} {w:World}
theorem aAp {x:Operand} {v:Value} {l:List UInt8} (hx:ev ρ x=v) (h:SlE u8E w v l) (k:aO P r K (put ρ d (.string (str l))) w):aO P (.cons ⟨d,.strOf x,none⟩ r) K ρ w:=by
 obtain ⟨base,cap,rfl⟩:=h.form
 have hc:=h.cells
 rw [aUd] at hc
 exact bHt hx rfl hc k
theorem bMd {x:Operand} {b:Nat} {t:TypeId} {n:Nat} (hx:ev ρ x=.slice (some ⟨b,0,none⟩) 1 1) (ha:At w b (.cells [Value.int .u8 (IntKind.u8.wrap (n:Int))].toArray t (0,0))) (k:aO P r K (put ρ d (.string (str [UInt8.ofNat n]))) w):aO P (.cons ⟨d,.strOf x,none⟩ r) K ρ w:=by
 rw [aEf] at ha
 exact aAp (l:= [UInt8.ofNat n]) hx (SlE.new (E:=u8E) ha rfl (Nat.le_refl _)) k
theorem lZ {x y:Operand} {a b:ByteArray} (hx:ev ρ x=.string a) (hy:ev ρ y=.string b) (h:a.size+b.size≤9223372036854775807) (k:aO P r K (put ρ d (.string (a++b))) w):aO P (.cons ⟨d,.bin .add x y,none⟩ r) K ρ w:=bNd hx hy h k
end Go.K
namespace Go.K
open Go
section
variable {α:Type}
def idxOf (p:α→Bool) (l:List α):Int:=match l.findIdx? p with
 |some i=>i
 |none=> -1
theorem idxOf_hit {p:α→Bool} {l:List α} {i:Nat} (h:i<l.length) (hp:p l[i]=true) (hn:∀j (_:j<i),p l[j]=false):idxOf p l=i:=by
 have:l.findIdx? p=some i:=List.findIdx?_eq_some_iff_getElem.2 ⟨h,hp,fun j hj=>by simpa using hn j hj⟩
 rw [idxOf,this]
theorem idxOf_miss {p:α→Bool} {l:List α} (hn:∀j (h:j<l.length),p l[j]=false):idxOf p l= -1:=by
 have:l.findIdx? p=none:=List.findIdx?_eq_none_iff.2 fun x hx=>by
  obtain ⟨j,hj,rfl⟩:=List.getElem_of_mem hx
  exact hn j hj
 rw [idxOf,this]
theorem jI {p:α→Bool} {l:List α}:decide (idxOf p l≥0)=l.any p:=by
 unfold idxOf
 cases h:l.findIdx? p with
 |none=>
  have:=List.findIdx?_eq_none_iff.1 h
  symm;simpa using this
 |some i=>
  obtain ⟨h1,h2,_⟩:=List.findIdx?_eq_some_iff_getElem.1 h
  have:l.any p=true:=List.any_eq_true.2 ⟨_,gMe h1,h2⟩
  rw [this];simp
end
def jP:Int→List Int→Option Int
 |s, []=>some s
 |s,a::l=>if bX a&&bX (s+a) then jP (s+a) l else none
def fX (l:List Int):Int:=(jP 0 l).getD 0
def kB (l:List Int):Int:=if (jP 0 l).isSome then 0 else 3
theorem aHh (l m:List Int):∀s,jP s (l++m)=(jP s l).bind fun s'=>jP s' m:=by
 induction l with
 |nil=>intro s;rfl
 |cons a l ih=>intro s;simp only [List.cons_append,jP];split<;>simp [ih]
theorem zS:∀(l:List Int) (s t:Int),bX s=true→jP s l=some t→bX t=true
 | [],s,t,hs,h=>by simp [jP] at h;subst h;exact hs
 |a::l,s,t,hs,h=>by
  simp only [jP] at h
  split at h
  ·rename_i hc
   simp only [Bool.and_eq_true] at hc
   exact zS l _ t hc.2 h
  ·cases h
theorem aP9 {l:List Int} {i:Nat} (h:i<l.length):jP 0 (l.take (i+1))=(jP 0 (l.take i)).bind fun s=>if bX l[i]&&bX (s+l[i]) then some (s+l[i]) else none:=by
 rw [List.take_succ_eq_append_getElem h,aHh];congr 1
theorem aF8 {l:List Int} {i:Nat} (h:jP 0 (l.take i)=none):jP 0 l=none:=by
 rw [←List.take_append_drop i l,aHh,h];rfl
end Go.K
end
namespace Go.K
section
open Go
structure TIn where
 p:Pt
 q:Int
 wit:List ByteArray
deriving DecidableEq
structure TOut where
 v:Int
 s:ByteArray
deriving DecidableEq
structure Tx where
 ver:Int
 ins:List TIn
 outs:List TOut
 lock:Int
deriving DecidableEq
structure Ent where
 tx:Tx
 id:ByteArray
 fee:Int
 size:Int
deriving DecidableEq
instance:Inhabited TIn:=⟨⟨default,0, []⟩⟩
instance:Inhabited TOut:=⟨⟨0,⟨#[]⟩⟩⟩
instance:Inhabited Tx:=⟨⟨0, [], [],0⟩⟩
instance:Inhabited Ent:=⟨⟨default,⟨#[]⟩,0,0⟩⟩
def dV (n:Int):Prop:=0≤n∧n<4294967296
def lJ (n:Int):Prop:= -9223372036854775808≤n∧n<9223372036854775808
def lL:R ByteArray:=R.flat bO false
def gO (x:TIn) (wv:Value):List Value:= [.string x.p.s,.int .u32 x.p.i,.int .u32 x.q,wv]
def inR:R TIn where
 k:=4
 pos:=by decide
 ag:=true
 rel:=fun M w cs x=>∃wv,cs=gO x wv∧SlR lL M w wv x.wit∧dV x.p.i∧dV x.q
 len:=fun ⟨_,h,_⟩=>by rw [h];rfl
 one:=fun ⟨wv,h,hs,_⟩ v hv=>by
  obtain ⟨b,c,rfl⟩:=hs.form
  subst h;simp [gO] at hv;rcases hv with rfl|rfl|rfl|rfl<;>rfl
 step:=fun ⟨wv,h,hs,h2⟩ c hL hM=>⟨wv,h,hs.step c hL hM,h2⟩
def fD (x:TOut):List Value:= [.int .i64 x.v,.string x.s]
def eX:R TOut where
 k:=2
 pos:=by decide
 ag:=true
 rel:=fun _ _ cs x=>cs=fD x∧lJ x.v
 len:=fun ⟨h,_⟩=>by rw [h];rfl
 one:=fun ⟨h,_⟩ v hv=>by subst h;simp [fD] at hv;rcases hv with rfl|rfl<;>rfl
 step:=fun h _ _ _=>h
def aK (x:Tx) (iv ov:Value):List Value:= [.int .u32 x.ver,iv,ov,.int .u32 x.lock]
def txR:R Tx where
 k:=4
 pos:=by decide
 ag:=true
 rel:=fun M w cs x=>∃iv ov,cs=aK x iv ov∧SlR inR M w iv x.ins∧SlR eX M w ov x.outs∧dV x.ver∧dV x.lock
 len:=fun ⟨_,_,h,_⟩=>by rw [h];rfl
 one:=fun ⟨iv,ov,h,hi,ho,_⟩ v hv=>by
  obtain ⟨b,c,rfl⟩:=hi.form
  obtain ⟨b',c',rfl⟩:=ho.form
  subst h;simp [aK] at hv;rcases hv with rfl|rfl|rfl|rfl<;>rfl
 step:=fun ⟨iv,ov,h,hi,ho,h2⟩ c hL hM=>⟨iv,ov,h,hi.step c hL hM,ho.step c hL hM,h2⟩
def bN (x:Ent) (iv ov:Value):List Value:= [.int .u32 x.tx.ver,iv,ov,.int .u32 x.tx.lock,.string x.id,.int .i64 x.fee,.int .i64 x.size]
def bF:R Ent where
 k:=7
 pos:=by decide
 ag:=true
 rel:=fun M w cs x=>∃iv ov,cs=bN x iv ov∧SlR inR M w iv x.tx.ins∧SlR eX M w ov x.tx.outs∧dV x.tx.ver∧dV x.tx.lock∧lJ x.fee∧lJ x.size
 len:=fun ⟨_,_,h,_⟩=>by rw [h];rfl
 one:=fun ⟨iv,ov,h,hi,ho,_⟩ v hv=>by
  obtain ⟨b,c,rfl⟩:=hi.form
  obtain ⟨b',c',rfl⟩:=ho.form
  subst h;simp [bN] at hv;rcases hv with rfl|rfl|rfl|rfl|rfl|rfl|rfl<;>rfl
 step:=fun ⟨iv,ov,h,hi,ho,h2⟩ c hL hM=>⟨iv,ov,h,hi.step c hL hM,ho.step c hL hM,h2⟩
def aV:ByteArray:=str (List.replicate 32 0)
def aIz:Pt:=⟨aV,4294967295⟩
def mP (p:Pt):Bool:=decide (p.s=aIz.s)&&decide (p.i=aIz.i)
def aX (t:Tx):Bool:=decide (t.ins.length=1)&&mP (t.ins.headD default).p
def jR (t:Tx):Bool:=decide (1≤(t.ins.length:Int)∧(t.ins.length:Int)≤256)&&decide (1≤(t.outs.length:Int)∧(t.outs.length:Int)≤256)&&!(t.ins.any fun x=>decide ((x.wit.length:Int)>4))
def aAl (x:TOut):Bool:=decide ((x.s.size:Int)>40)
def uG (s:ByteArray):Bool:=decide ((s.size:Int)>80)
def aLg (x:TIn):Bool:=x.wit.any uG
def aBe (t:Tx):Bool:=t.outs.any aAl||t.ins.any aLg
def yB (t:Tx) (x:TIn):Bool:=!decide ((x.p.s.size:Int)=32)||(mP x.p&&decide ((t.ins.length:Int)>1))
def jN (t:Tx):Bool:=!(t.ins.any (yB t))
def wT:List Pt→Bool
 | []=>false
 |p::l=>l.contains p||wT l
def bK (t:Tx):List Pt:=t.ins.map (·.p)
def yY (t:Tx):Bool:=wT (bK t).reverse
def values (t:Tx):List Int:=t.outs.map (·.v)
def aG (t:Tx):Int:=if !jR t then 6 else if aBe t then 20 else if !jN t then 4 else if yY t then 7 else kB (values t)
structure Tx.Sm (t:Tx):Prop where
 ins:t.ins.length≤1000
 outs:t.outs.length≤1000
 wit:∀x∈t.ins,x.wit.length≤1000
theorem aHc {α:Type} {p:α→Bool} {l:List α}:decide (idxOf p l≥0)=l.any p:=jI
theorem aXz (l m:List Pt) (h:wT m=true):wT (l++m)=true:=by
 induction l with
 |nil=>exact h
 |cons p l ih=>simp only [List.cons_append,wT,ih,Bool.or_true]
theorem aLh {l:List Pt} {i:Nat} (h:i<l.length):wT (l.take (i+1)).reverse=((l.take i).contains l[i]||wT (l.take i).reverse):=by
 rw [List.take_succ_eq_append_getElem h,List.reverse_append]
 simp only [List.reverse_cons,List.reverse_nil,List.nil_append,List.singleton_append,wT]
 congr 1
 simp
theorem aRr {l:List Pt} {i:Nat} (h:wT (l.take i).reverse=true):wT l.reverse=true:=by
 conv=>lhs;rw [←List.take_append_drop i l,List.reverse_append]
 exact aXz _ _ h
end
section
open Go
theorem Ext.of_below {w w':World} (h:RowKit.Below w.heap.size w w'):Ext w w':=⟨h.os,h.tape,h.output,h.size,fun b hb _=>h.block b hb⟩
structure Wr (e:TypeId) (B b:Nat) (w w':World):Prop where
 low:RowKit.Below B w w'
 oth:Lib.OthersKept e (some b) w w'
theorem Wr.refl (e:TypeId) (B b:Nat) (w:World):Wr e B b w w:=⟨RowKit.Below.refl _ _,Lib.OthersKept.refl _ _ _⟩
theorem Wr.trans {e:TypeId} {B b:Nat} {w w1 w2:World} (h:Wr e B b w w1) (h':Wr e B b w1 w2):Wr e B b w w2:=⟨h.low.trans h'.low,h.oth.trans h'.oth⟩
theorem Wr.of_ext {e:TypeId} {B b:Nat} {w w':World} (h:Ext w w') (hB:B≤w.heap.size):Wr e B b w w':=
 ⟨⟨Chg.os h,Chg.tape h,Chg.output h,Chg.size h,fun k hk=>Chg.block h k (by omega) (by simp)⟩,fun k o hk _ _=>by
  have hlt:k<w.heap.size:=(Array.getElem?_eq_some_iff.1 hk).1
  exact (Chg.block h k hlt (by simp)).trans hk⟩
theorem Wr.size {e:TypeId} {B b:Nat} {w w':World} (h:Wr e B b w w'):w.heap.size≤w'.heap.size:=h.low.size
theorem Wr.ext {e:TypeId} {B b:Nat} {w0 w w':World} (h:Wr e B b w w') (x:Ext w0 w) (hB:w0.heap.size≤B):Ext w0 w':=
 ⟨h.low.os.trans (Chg.os x),h.low.tape.trans (Chg.tape x),h.low.output.trans (Chg.output x),nTr (Chg.size x) h.low.size,fun k hk hn=>(h.low.block k (by omega)).trans (Chg.block x k hk hn)⟩
theorem At.wr {e t:TypeId} {B b k:Nat} {w w':World} {cs:Array Value} {f:Nat × Nat} (h:Wr e B b w w') (ha:At w k (.cells cs t f)) (hk:k≠b) (ht:t≠e):At w' k (.cells cs t f):=
 h.oth k _ ha (by simpa using hk) (by intro c fz hc;injection hc with _ h2 _;exact ht h2)
def Bld (T e:TypeId) (B b:Nat) (s:ByteArray) (w:World):Prop:=B≤w.heap.size∧Lib.IsBuilderF T e B b (Lib.byteCells s.data.toList) w
theorem Bld.new {T e:TypeId} {B b:Nat} {w:World} (hB:B≤b) (h:At w b (.cells [Value.pointer none,Value.slice none 0 0].toArray T (0,0))):Bld T e B b ⟨#[]⟩ w:=by
 refine ⟨by have:=h.lt;omega,.inl ⟨hB,_,h,World.ownsRowF_nil w B e 1,by simp [Value.ownBlock]⟩⟩
theorem Bld.ext {T e:TypeId} {B b:Nat} {s:ByteArray} {w w':World} (h:Bld T e B b s w) (x:Ext w w'):Bld T e B b s w':=by
 have key:∀p,Lib.BuilderAtF T e B b p (Lib.byteCells s.data.toList) w→Lib.BuilderAtF T e B b p (Lib.byteCells s.data.toList) w':=by
  rintro p ⟨hB,v,hb,ho,hn⟩
  refine ⟨hB,v,At.ext x hb,?_,hn⟩
  obtain ⟨h1,h2⟩:=ho
  refine ⟨h1,?_⟩
  rcases h2 with h2|⟨g,cap,cur,fz,hv,hg,hh,r⟩
  ·exact .inl h2
  ·exact .inr ⟨g,cap,cur,fz,hv,hg,At.ext x hh,r⟩
 refine ⟨nTr h.1 x.size,?_⟩
 rcases h.2 with h|h
 ·exact .inl (key _ h)
 ·exact .inr (key _ h)
theorem Bld.lt {T e:TypeId} {B b:Nat} {s:ByteArray} {w:World} (h:Bld T e B b s w):b<w.heap.size:=by
 rcases h.2 with ⟨_,v,hb,_⟩|⟨_,v,hb,_⟩
 ·exact At.lt hb
 ·exact At.lt hb
theorem Bld.x {T e:TypeId} {B b:Nat} {s:ByteArray} {w w':World} (c:Ext w w') (h:Bld T e B b s w):Bld T e B b s w':=h.ext c
theorem byteCells_append (a b:ByteArray):Lib.byteCells a.data.toList++Lib.strCells b=Lib.byteCells (a++b).data.toList:=by
 simp [Lib.byteCells,Lib.strCells,ByteArray.data_append]
section
variable {κ β:Type} [DecidableEq κ] {E:KEnc κ} {fv:β→Value} {P:Program} {d:Option Tmp} {r:KR} {K:Env→World→Prop} {ρ:Env} {w:World}
theorem aWm {b i clock:Nat} {es:Array MapEntry} {l:List (κ × β)} {k:κ} {v0:β} (h:At w b (.map es clock)) (hwf:Wf es clock) (hi:i<es.size) (hv:es[i].val=fv v0)
  (hall:∀v:β,(es.modify i fun e=>{e with val:=fv v}).toList.map (fun e=>(e.key,e.val))=(fN l k v).map (fun p=>(E.f p.1,fv p.2))) (hn:(l.map (·.1)).Nodup):dW E fv w b (fN l k v0):=by
 refine ⟨es,clock,h,hwf,?_,aEh hn⟩
 rw [←hall v0]
 congr 2
 apply Array.ext
 ·simp
 ·intro j h1 h2
  rw [Array.getElem_modify]
  split
  ·rename_i e;subst e
   generalize es[i]=q at hv
   cases q;simp only at hv;simp [hv]
  ·rfl
theorem aU8 {s:Bool} {ks:List CK} {z:Value} {m x:Operand} {b:Nat} {l:List (κ × β)} {k:κ} (z0:β) (hz:z=fv z0) (hm:ev ρ m=.map (some b)) (hx:ev ρ x=E.f k) (hM:dW E fv w b l) (hs:s=E.s) (hks:ks=E.ks)
  (kk:∀(st:Nat) w',Chg [b] w w'→qD E fv w' b l k st→dW E fv w' b (fN l k ((aS l k).getD z0))→aO P r K (put ρ d (.tuple #[fv ((aS l k).getD z0),.int .i64 (st:Int)])) w'):aO P (.cons ⟨d,.mapEntry s ks z m x,none⟩ r) K ρ w:=by
 subst hs hks hz
 obtain ⟨es,clock,hat,hwf,heq,hn⟩:=hM
 have hf:=sH (E:=E) (fv:=fv) k es.toList l 0 heq
 have hlen:es.size=l.length:=by have:=congrArg List.length heq;simpa using this
 refine iI ⟨b,es,clock,_,hm,hat,by rw [hx];exact E.ok k,by rw [hx];exact hf,?_⟩
 cases h:(l.findIdx? fun p=>decide (p.1=k)) with
 |none=>
  have hg:aS l k=none:=by rw [tC,h];rfl
  rw [hg] at kk
  simp only [Option.bind_none]
  rw [hx]
  have P1:=hat.setObj (o':=.map (es.push {key:=E.f k,val:=fv z0,born:=clock}) (clock+1))
  have P2:=aTx hwf (E.f k) (fv z0)
  have P3:∀v:β,((es.push {key:=E.f k,val:=fv z0,born:=clock}).modify es.size fun e=>{e with val:=fv v}).toList.map (fun e=>(e.key,e.val))=(fN l k v).map (fun p=>(E.f p.1,fv p.2)):=by
   intro v
   rw [qZ h,List.map_append,←heq]
   apply List.ext_getElem
   ·simp
   ·intro i h1 h2
    have h3:i<es.size+1:=by simpa using h1
    simp only [List.getElem_map,Array.getElem_toList,Array.getElem_modify,List.getElem_append,List.length_map,Array.length_toList]
    by_cases hi:i<es.size
    ·rw [dif_pos hi]
     have hne:¬(es.size=i):=by omega
     simp [hne,Array.getElem_push_lt hi]
    ·have:i=es.size:=by omega
     subst this
     simp
  exact kk clock _ (Chg.setObj _ _ _) ⟨_,_,es.size,P1,P2,⟨by simp,by simp⟩,P3,hn⟩ (aWm P1 P2 (by simp) (by simp) P3 hn)
 |some j=>
  obtain ⟨hj,hk,_⟩:=List.findIdx?_eq_some_iff_getElem.1 h
  have hjs:j<es.size:=by omega
  have hg:aS l k=some l[j].2:=by rw [tC,h];simp [List.getElem?_eq_getElem hj]
  rw [hg] at kk
  simp only [Option.bind_some,List.getElem?_eq_getElem hj,Option.map_some,Nat.zero_add]
  rw [hx]
  have e1:(((es[j]?).map (·.born)).getD 0)=es[j].born:=by simp [Array.getElem?_eq_getElem hjs]
  rw [e1]
  have P1:=hat.setObj (o':=.map (es.modify j fun e=>{e with key:=E.f k}) clock)
  have P2:=aEj hwf j (fun e=>{e with key:=E.f k}) (fun _=>rfl)
  have h6:(es.toList.map (fun e=>(e.key,e.val)))[j]'(by simpa using hjs)=(l.map (fun p=>(E.f p.1,fv p.2)))[j]'(by simpa using hj):=by simp only [heq]
  simp only [List.getElem_map,Array.getElem_toList,Prod.mk.injEq] at h6
  have P3:∀v:β,((es.modify j fun e=>{e with key:=E.f k}).modify j fun e=>{e with val:=fv v}).toList.map (fun e=>(e.key,e.val))=(fN l k v).map (fun p=>(E.f p.1,fv p.2)):=by
   intro v
   rw [rX h]
   apply List.ext_getElem
   ·simpa using hlen
   ·intro i h1 h2
    have h3:i<es.toList.length:=by simpa using h1
    have h4:i<l.length:=by simpa using h2
    have h5:(es.toList.map (fun e=>(e.key,e.val)))[i]'(by simpa using h3)=(l.map (fun p=>(E.f p.1,fv p.2)))[i]'(by simpa using h4):=by simp only [heq]
    simp only [List.getElem_map] at h5
    simp only [List.getElem_map,Array.getElem_toList,Array.getElem_modify,List.getElem_set] at h5 ⊢
    split
    ·rfl
    ·exact h5
  exact kk es[j].born _ (Chg.setObj _ _ _) ⟨_,_,j,P1,P2,⟨by simpa using hjs,by rw [Array.getElem_modify,if_pos rfl]⟩,P3,hn⟩ (aWm P1 P2 (by simpa using hjs) (by rw [Array.getElem_modify,if_pos rfl];exact h6.2) P3 hn)
theorem aDa (l:List (κ × β)) (k:κ) (v:β) (k':κ):aS (fN l k v) k'=if k=k' then some v else aS l k':=by
 induction l with
 |nil=>unfold fN aS;by_cases h:k=k'<;>simp [h]
 |cons p l ih=>
  unfold fN
  by_cases h:p.1=k
  ·rw [if_pos h]
   have e:∀q:κ × β,aS (q::l) k'=if q.1=k' then some q.2 else aS l k':=by intro q;unfold aS;rw [List.find?_cons];by_cases h:q.1=k'<;>simp [h]
   rw [e,e]
   by_cases h2:k=k'
   ·simp [h2]
   ·rw [if_neg h2,if_neg h2,if_neg (by rw [h];exact h2)]
  ·rw [if_neg h]
   have e:∀(q:κ × β) (m:List (κ × β)),aS (q::m) k'=if q.1=k' then some q.2 else aS m k':=by intro q m;unfold aS;rw [List.find?_cons];by_cases h:q.1=k'<;>simp [h]
   rw [e,e,ih]
   by_cases h2:p.1=k'
   ·rw [if_pos h2,if_pos h2,if_neg (by rw [←h2];exact fun e=>h e.symm)]
   ·rw [if_neg h2,if_neg h2]
end
end
end Go.K
