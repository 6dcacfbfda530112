/- Plain: points, coins, the order of points, the limits. Plain -/
import Derived.Lib.Bytealg
import Derived.Test.YteceapipdhnhdaaGreatDoorNa5
set_option linter.unusedVariables false
set_option linter.unusedSimpArgs false
namespace Go.K
section
open Go
structure Pt where
 s:ByteArray
 i:Int
deriving DecidableEq
structure Cn where
 v:Int
 s:ByteArray
 h:Int
deriving DecidableEq
instance:Inhabited Pt:=⟨⟨⟨#[]⟩,0⟩⟩
instance:Inhabited Cn:=⟨⟨0,⟨#[]⟩,0⟩⟩
def Pt.cs (p:Pt):List Value:= [.string p.s,.int .u32 p.i]
def Pt.val (p:Pt):Value:=.agg #[.string p.s,.int .u32 p.i]
def Cn.cs (c:Cn):List Value:= [.int .i64 c.v,.string c.s,.int .i64 c.h]
def Cn.val (c:Cn):Value:=.agg #[.int .i64 c.v,.string c.s,.int .i64 c.h]
def dL (p:Pt) (c:Cn):Bool:=decide (p.s.size=32)&&decide (0≤c.h)&&decide (c.h≤1000000)&&bT c.v
theorem aS3:∀a:List UInt8,Op.bytesLess a a=false
 | []=>rfl
 |a::l=>by simp [Op.bytesLess,aS3 l]
theorem aXa:∀a b c:List UInt8,Op.bytesLess a b=true→Op.bytesLess b c=true→Op.bytesLess a c=true
 |_, [],_,h,_=>by cases ‹List UInt8›<;>simp [Op.bytesLess] at h
 |_,_::_, [],_,h=>by simp [Op.bytesLess] at h
 | [],_::_,_::_,_,_=>by rfl
 |a::x,b::y,c::z,h,h'=>by
  simp only [Op.bytesLess,Bool.or_eq_true,decide_eq_true_eq,Bool.and_eq_true,beq_iff_eq] at h h' ⊢
  rcases h with h|⟨rfl,h⟩
  ·grind
  ·rcases h' with h'|⟨rfl,h'⟩
   ·simp [*]
   ·exact .inr ⟨rfl,aXa x y z h h'⟩
theorem bJt:∀a b:List UInt8,Op.bytesLess a b=false→Op.bytesLess b a=false→a=b
 | [], [],_,_=>rfl
 | [],_::_,h,_=>by simp [Op.bytesLess] at h
 |_::_, [],_,h=>by simp [Op.bytesLess] at h
 |a::x,b::y,h,h'=>by
  simp only [Op.bytesLess,Bool.or_eq_false_iff,decide_eq_false_iff_not,Bool.and_eq_false_iff,beq_eq_false_iff_ne] at h h'
  have e:a=b:=by
   have h1:=h.1;have h2:=h'.1
   rw [UInt8.lt_iff_toNat_lt] at h1 h2
   exact UInt8.toNat_inj.1 (by omega)
  subst e
  rcases h.2 with h1|h1
  ·simp_all
  rcases h'.2 with h2|h2
  ·simp_all
  rw [bJt x y h1 h2]
theorem bEb:∀a b:List UInt8,Lib.compareBytes a b<0↔Op.bytesLess a b=true
 | [], []=>by simp [Lib.compareBytes,Op.bytesLess]
 | [],_::_=>by simp [Lib.compareBytes,Op.bytesLess]
 |_::_, []=>by simp [Lib.compareBytes,Op.bytesLess]
 |a::x,b::y=>by
  simp only [Lib.compareBytes,Op.bytesLess]
  by_cases h1:a<b
  ·simp [h1]
  ·by_cases h2:b<a
   ·have h3:¬a=b:=fun e=>by subst e;exact h1 h2
    simp [h1,h2,h3]
   ·have e:a=b:=by
     rw [UInt8.lt_iff_toNat_lt] at h1 h2
     exact UInt8.toNat_inj.1 (by omega)
    subst e
    simp [bEb x y,UInt8.lt_irrefl]
theorem aUb:∀a b:List UInt8,Lib.compareBytes a b=0↔a=b
 | [], []=>by simp [Lib.compareBytes]
 | [],_::_=>by simp [Lib.compareBytes]
 |_::_, []=>by simp [Lib.compareBytes]
 |a::x,b::y=>by
  simp only [Lib.compareBytes]
  by_cases h1:a<b
  ·have h3:¬a=b:=fun e=>by subst e;exact UInt8.lt_irrefl _ h1
   simp [h1,h3]
  ·by_cases h2:b<a
   ·have h3:¬a=b:=fun e=>by subst e;exact h1 h2
    simp [h1,h2,h3]
   ·have e:a=b:=by
     rw [UInt8.lt_iff_toNat_lt] at h1 h2
     exact UInt8.toNat_inj.1 (by omega)
    subst e
    simp [aUb x y,UInt8.lt_irrefl]
theorem vV (a:ByteArray):a.data.toList=a.toList:=(Lib.toList_data a).symm
theorem toList_inj {a b:ByteArray} (h:a.toList=b.toList):a=b:=by
 rw [←vV,←vV] at h
 exact ByteArray.ext (Array.toList_inj.1 h)
def lA (p q:Pt):Bool:=if p.s=q.s then decide (p.i<q.i) else Op.bytesLess p.s.toList q.s.toList
theorem aBu (p:Pt):lA p p=false:=by simp [lA]
theorem aAa {p q r:Pt} (h:lA p q=true) (h':lA q r=true):lA p r=true:=by
 unfold lA at*
 by_cases h1:p.s=q.s
 ·grind
 ·rw [if_neg h1] at h
  by_cases h2:q.s=r.s
  ·simp_all
  ·rw [if_neg h2] at h'
   have h3:=aXa _ _ _ h h'
   by_cases h4:p.s=r.s
   ·grind [aS3]
   simp [*]
theorem aY1 {p q:Pt} (h:lA p q=false) (h':lA q p=false):p=q:=by
 unfold lA at*
 by_cases h1:p.s=q.s
 ·rw [if_pos h1] at h;rw [if_pos h1.symm] at h'
  simp at h h'
  cases p;cases q;grind
 ·rw [if_neg h1] at h;rw [if_neg (fun e=>h1 e.symm)] at h'
  grind [toList_inj,bJt]
def bBr (a b:Int):Int:=if a<b then -1 else if b<a then 1 else 0
def orI (a b:Int):Int:=if a=0 then b else a
theorem bRo (p q:Pt):decide (orI (Lib.compareBytes p.s.data.toList q.s.data.toList) (bBr p.i q.i)<0)=lA p q:=by
 unfold orI lA
 rw [vV,vV]
 by_cases h:p.s=q.s
 ·rw [if_pos h,if_pos ((aUb _ _).2 (by rw [h]))]
  grind [bBr]
 ·rw [if_neg h,if_neg (fun e=>h (toList_inj ((aUb _ _).1 e)))]
  apply Bool.eq_iff_iff.2
  simp only [decide_eq_true_eq]
  exact bEb _ _
end
section
open Go
abbrev En:=Pt × Cn
def cQ:Enc En:=⟨fun e=>e.1.cs++e.2.cs,5,fun _=>rfl,by decide,by
 intro x v hv
 simp [Pt.cs,Cn.cs] at hv
 rcases hv with rfl|rfl|rfl|rfl|rfl<;>rfl⟩
def En.val (e:En):Value:=.agg #[.string e.1.s,.int .u32 e.1.i,.int .i64 e.2.v,.string e.2.s,.int .i64 e.2.h]
def ptK:KEnc Pt:=⟨Pt.val,true, [.s,.i],by
 intro a b
 cases a;cases b
 simp [Pt.val,aBf,cU,kR,Pt.mk.injEq]
 ,fun a=>rfl⟩
def tot (m:List En):Int:=(m.map (·.2.v)).sum
@[simp] theorem bR1:tot []=0:=rfl
@[simp] theorem bIm (e:En) (m:List En):tot (e::m)=e.2.v+tot m:=by simp [tot]
@[simp] theorem aFp (l m:List En):tot (l++m)=tot l+tot m:=by simp [tot]
theorem aB4 {l m:List En} (h:l.Perm m):tot l=tot m:=by
 induction h with
 |nil=>rfl
 |cons x _ ih=>simp [ih]
 |swap x y l=>simp;omega
 |trans _ _ h1 h2=>omega
def Mon (m:List En):Prop:=(∀e∈m,0≤e.2.v)∧tot m≤2100000000000000
theorem Mon.nil:Mon []:=⟨by simp,by simp⟩
theorem Mon.pos:∀{m:List En},(∀e∈m,0≤e.2.v)→0≤tot m
 | [],_=>by simp
 |e::m,h=>by
  have h1:=h e (by simp)
  have h2:=Mon.pos (m:=m) (fun x hx=>h x (by grind))
  simp;omega
theorem Mon.le:∀{m:List En},(∀e∈m,0≤e.2.v)→∀e∈m,e.2.v≤tot m
 |e'::m,h,e,he=>by
  have h2:=Mon.pos (m:=m) (fun x hx=>h x (by grind))
  simp only [List.mem_cons] at he
  rcases he with rfl|he
  ·simp;omega
  ·have:=Mon.le (m:=m) (fun x hx=>h x (by grind)) e he
   have h1:=h e' (by simp)
   simp;omega
theorem Mon.good {m:List En} (h:Mon m):bT (tot m)=true:=(bR _).2 ⟨Mon.pos h.1,h.2⟩
theorem nI {κ β:Type} [DecidableEq κ] {m:List (κ × β)} {k:κ} {v:β} (h:aS m k=some v):(k,v)∈m:=by
 unfold aS at h
 obtain ⟨p,hp,rfl⟩:=Option.map_eq_some_iff.1 h
 grind
def rI (t:TypeId) (w:World) (b mb:Nat) (m:List En):Prop:=
 At w b (.cells [Value.map (some mb),.int .i64 (tot m)].toArray t (0,0))∧dB ptK Cn.val w mb m∧Mon m
section
variable {t:TypeId} {w w':World} {b mb:Nat} {m:List En}
theorem rI.at_ (h:rI t w b mb m):At w b (.cells [Value.map (some mb),.int .i64 (tot m)].toArray t (0,0)):=h.1
theorem rI.row (h:rI t w b mb m):Row w ⟨b,0,none⟩ [Value.map (some mb),.int .i64 (tot m)]:=Row.of_at h.1
theorem rI.ne (h:rI t w b mb m):b≠mb:=by
 obtain ⟨h1,⟨es,clock,h2,_⟩,_⟩:=h
 exact h1.ne h2 (by simp)
theorem rI.chg {l:List Nat} (hc:Chg l w w') (h:rI t w b mb m) (h1:b∉l) (h2:mb∉l):rI t w' b mb m:=⟨h.1.chg hc h1,h.2.1.chg hc h2,h.2.2⟩
theorem rI.ext (hc:Ext w w') (h:rI t w b mb m):rI t w' b mb m:=h.chg hc (by simp) (by simp)
end
def gZ (m:List En) (p:Pt) (c:Cn):Int:=if dL p c then (if (aS m p).isSome then 7 else if bT (tot m+c.v) then 0 else 3) else 2
def aC1 (m:List En) (p:Pt) (c:Cn):List En:=if gZ m p c=0 then m++ [(p,c)] else m
def cn0:Cn:=⟨0,⟨#[]⟩,0⟩
def yT (m:List En) (p:Pt):Int:=if (aS m p).isSome then 0 else 8
def lF (m:List En) (p:Pt):Cn:=(aS m p).getD cn0
def aHq (m:List En) (p:Pt):List En:=lE m p
theorem aSm {κ β:Type} [DecidableEq κ] (e:κ × β) (m:List (κ × β)) (k:κ):lE (e::m) k=if e.1=k then lE m k else e::lE m k:=by
 grind [lE]
theorem aX3 {κ β:Type} [DecidableEq κ] {m:List (κ × β)} {k:κ} (h:k∉m.map (·.1)):lE m k=m:=by
 unfold lE
 rw [List.filter_eq_self]
 grind
theorem aTd {κ β:Type} [DecidableEq κ] (e:κ × β) (m:List (κ × β)) (k:κ):aS (e::m) k=if e.1=k then some e.2 else aS m k:=by
 grind [aS]
theorem bEs:∀{m:List En} {p:Pt} {c:Cn},(m.map (·.1)).Nodup→aS m p=some c→tot (lE m p)=tot m - c.v
 |(q,d)::m,p,c,hn,h=>by
  simp only [List.map_cons,List.nodup_cons] at hn
  rw [aTd] at h
  rw [aSm]
  by_cases e:q=p
  ·subst e
   simp at h
   subst h
   rw [if_pos rfl,aX3 hn.1];simp;omega
  ·rw [if_neg e] at h ⊢
   have ih:=bEs hn.2 h
   simp [ih];omega
theorem Mon.del {m:List En} (h:Mon m) (p:Pt):Mon (lE m p):=by
 have hs:∀e∈lE m p,0≤e.2.v:=fun e he=>h.1 e (List.mem_filter.1 he).1
 refine ⟨hs,?_⟩
 have key:∀l:List En,(∀e∈l,0≤e.2.v)→tot (lE l p)≤tot l:=by
  intro l
  induction l with
  |nil=>grind [lE]
  |cons e l ih=>
   intro hl
   have h1:=hl e (by simp)
   have h2:=ih (fun x hx=>hl x (by grind))
   rw [aSm]
   split<;>simp<;>omega
 have:=key m h.1;have:=h.2;omega
theorem Mon.put {m:List En} (h:Mon m) {p:Pt} {c:Cn} (hc:gZ m p c=0):Mon (m++ [(p,c)]):=by
 unfold gZ at hc
 split at hc
 ·rename_i hf
  split at hc
  ·cases hc
  ·split at hc
   ·rename_i hg
    have h1:=(bR _).1 hg
    have h2:bT c.v=true:=by simp only [dL,Bool.and_eq_true] at hf;exact hf.2
    have h3:=(bR _).1 h2
    exact ⟨fun e he=>by
     rcases List.mem_append.1 he with he|he
     ·exact h.1 e he
     simp_all,by simp;omega⟩
   omega
 omega
theorem bFo {κ β:Type} [DecidableEq κ] {m:List (κ × β)} {k:κ} {v:β} (h:aS m k=none):fV m k v=m++ [(k,v)]:=by
 grind [qW,aS,Option.map_eq_none_iff]
theorem bF3 {κ β:Type} [DecidableEq κ] {m:List (κ × β)} {k:κ} (h:aS m k=none):lE m k=m:=by
 apply aX3
 intro hm
 obtain ⟨p,hp,rfl⟩:=List.mem_map.1 hm
 grind [aS,Option.map_eq_none_iff]
theorem bJf {m:List En} {p:Pt} {c:Cn} (h:dL p c=false):gZ m p c=2:=by rw [gZ,h];rfl
theorem bJy {m:List En} {p:Pt} {c d:Cn} (h:dL p c=true) (hd:aS m p=some d):gZ m p c=7:=by grind [gZ]
theorem aXk {m:List En} {p:Pt} {c:Cn} (h:dL p c=true) (hd:aS m p=none) (hm:Mon m):gZ m p c=if iP (tot m) c.v then 0 else 3:=by
 have h2:bT c.v=true:=by simp only [dL,Bool.and_eq_true] at h;exact h.2
 rw [gZ,h,hd];simp only [iP,hm.good,h2,Bool.true_and];rfl
end
end Go.K
section
namespace Go.K
open Go
def leL (n:Nat):Nat→List UInt8
 |0=> []
 |k+1=>leL n k++ [UInt8.ofNat (n / 256^k)]
theorem dE (n:Nat):∀k,(leL n k).length=k
 |0=>rfl
 |k+1=>by simp [leL,dE n k]
def str (l:List UInt8):ByteArray:=⟨l.toArray⟩
theorem jF (l:List UInt8):(str l).size=l.length:=by rfl
theorem aOj (l m:List UInt8):str l++str m=str (l++m):=by
 rfl
theorem bEm:str []=⟨#[]⟩:=rfl
def leS (n k:Nat):ByteArray:=str (leL n k)
theorem bKv (n:Nat):leS n 0=⟨#[]⟩:=rfl
theorem tm (m n:Nat):Int.tmod (m:Int) (n:Int)=((m%n:Nat):Int):=by grind
theorem td (m n:Nat):Int.tdiv (m:Int) (n:Int)=((m / n:Nat):Int):=by simp
theorem bK9 (n i:Nat):leS n (i+1)=leS n i++str [UInt8.ofNat (n / 256^i)]:=by rfl
theorem bP9:leS 253 1=⟨#[253]⟩:=rfl
theorem bPx:leS 254 1=⟨#[254]⟩:=rfl
theorem bPz:leS 255 1=⟨#[255]⟩:=rfl
theorem cN (n k:Nat):(leS n k).size=k:=by rw [leS,jF,dE]
def vnS (n:Nat):ByteArray:=
 if n<253 then leS n 1 else if n<65536 then leS 253 1++leS n 2 else if n<4294967296 then leS 254 1++leS n 4 else leS 255 1++leS n 8
theorem eG (n:Nat):(vnS n).size≤9:=by
 grind [vnS,cN]
def u8E:Enc UInt8:=⟨fun b=> [.int .u8 (b.toNat:Nat)],1,fun _=>rfl,by decide,by intro x v hv;simp at hv;subst hv;rfl⟩
def bB:Enc ByteArray:=⟨fun s=> [.string s],1,fun _=>rfl,by decide,by intro x v hv;simp at hv;subst hv;rfl⟩
def aCl:Enc Int:=⟨fun n=> [.int .i64 n],1,fun _=>rfl,by decide,by intro x v hv;simp at hv;subst hv;rfl⟩
theorem aUe (l:List UInt8):u8E.flat l=l.map fun b:UInt8=>Value.int .u8 b.toNat:=by
 induction l with
 |nil=>rfl
 |cons x l ih=>simp only [Enc.flat,List.flatMap_cons] at ih ⊢;rw [ih];rfl
theorem aDw (n:Nat):IntKind.u8.wrap (n:Int)=((UInt8.ofNat n).toNat:Int):=by
 rfl
theorem eZ {n:Int} (h0:0≤n) (h:n<18446744073709551616):IntKind.u64.wrap n=n:=Int.emod_eq_of_lt h0 h
variable {P:Program} {d:Option Tmp} {r:KR} {K:Env→World→Prop} {ρ:Env} {w:World}
theorem aAh {x:Operand} {v:Value} {l:List UInt8} (hx:ev ρ x=v) (h:SlE u8E w v l) (k:aH P r K (put ρ d (.string (str l))) w):aH P (.cons ⟨d,.strOf x,none⟩ r) K ρ w:=by
 obtain ⟨base,cap,rfl⟩:=h.form
 have hc:=h.cells
 rw [aUe] at hc
 exact bI1 hx rfl hc k
theorem bL0 {x:Operand} {b:Nat} {t:TypeId} {n:Nat} (hx:ev ρ x=.slice (some ⟨b,0,none⟩) 1 1) (ha:At w b (.cells [Value.int .u8 (IntKind.u8.wrap (n:Int))].toArray t (0,0))) (k:aH P r K (put ρ d (.string (str [UInt8.ofNat n]))) w):aH P (.cons ⟨d,.strOf x,none⟩ r) K ρ w:=by
 rw [aDw] at ha
 exact aAh (l:= [UInt8.ofNat n]) hx (SlE.new (E:=u8E) ha rfl (Nat.le_refl _)) k
theorem lK {x y:Operand} {a b:ByteArray} (hx:ev ρ x=.string a) (hy:ev ρ y=.string b) (h:a.size+b.size≤9223372036854775807) (k:aH P r K (put ρ d (.string (a++b))) w):aH P (.cons ⟨d,.bin .add x y,none⟩ r) K ρ w:=bQr hx hy h k
end Go.K
namespace Go.K
open Go
section
variable {α:Type}
def idxOf (p:α→Bool) (l:List α):Int:=match l.findIdx? p with
 |some i=>i
 |none=> -1
theorem idxOf_hit {p:α→Bool} {l:List α} {i:Nat} (h:i<l.length) (hp:p l[i]=true) (hn:∀j (_:j<i),p l[j]=false):idxOf p l=i:=by
 grind [List.findIdx?_eq_some_iff_getElem,idxOf]
theorem idxOf_miss {p:α→Bool} {l:List α} (hn:∀j (h:j<l.length),p l[j]=false):idxOf p l= -1:=by
 have:l.findIdx? p=none:=List.findIdx?_eq_none_iff.2 fun x hx=>by
  obtain ⟨j,hj,rfl⟩:=List.getElem_of_mem hx
  simp [*]
 rw [idxOf,this]
theorem mS {p:α→Bool} {l:List α}:decide (idxOf p l≥0)=l.any p:=by
 grind [idxOf]
end
def mN:Int→List Int→Option Int
 |s, []=>some s
 |s,a::l=>if bT a&&bT (s+a) then mN (s+a) l else none
def gX (l:List Int):Int:=(mN 0 l).getD 0
def nO (l:List Int):Int:=if (mN 0 l).isSome then 0 else 3
theorem aHw (l m:List Int):∀s,mN s (l++m)=(mN s l).bind fun s'=>mN s' m:=by
 induction l with
 |nil=>intro s;rfl
 |cons a l ih=>grind [mN]
theorem aAj:∀(l:List Int) (s t:Int),bT s=true→mN s l=some t→bT t=true
 | [],s,t,hs,h=>by grind [mN]
 |a::l,s,t,hs,h=>by
  simp only [mN] at h
  split at h
  ·rename_i hc
   simp only [Bool.and_eq_true] at hc
   exact aAj l _ t hc.2 h
  grind
theorem aQe {l:List Int} {i:Nat} (h:i<l.length):mN 0 (l.take (i+1))=(mN 0 (l.take i)).bind fun s=>if bT l[i]&&bT (s+l[i]) then some (s+l[i]) else none:=by
 rw [List.take_succ_eq_append_getElem h,aHw];congr 1
theorem aFy {l:List Int} {i:Nat} (h:mN 0 (l.take i)=none):mN 0 l=none:=by
 grind [List.take_append_drop,aHw]
end Go.K
end
namespace Go.K
section
open Go
structure TIn where
 p:Pt
 q:Int
 wit:List ByteArray
deriving DecidableEq
structure TOut where
 v:Int
 s:ByteArray
deriving DecidableEq
structure Tx where
 ver:Int
 ins:List TIn
 outs:List TOut
 lock:Int
deriving DecidableEq
structure Ent where
 tx:Tx
 id:ByteArray
 fee:Int
 size:Int
deriving DecidableEq
instance:Inhabited TIn:=⟨⟨default,0, []⟩⟩
instance:Inhabited TOut:=⟨⟨0,⟨#[]⟩⟩⟩
instance:Inhabited Tx:=⟨⟨0, [], [],0⟩⟩
instance:Inhabited Ent:=⟨⟨default,⟨#[]⟩,0,0⟩⟩
def fN (n:Int):Prop:=0≤n∧n<4294967296
def rT (n:Int):Prop:= -9223372036854775808≤n∧n<9223372036854775808
def nM:R ByteArray:=R.flat bB false
def fS (x:TIn) (wv:Value):List Value:= [.string x.p.s,.int .u32 x.p.i,.int .u32 x.q,wv]
def inR:R TIn where
 k:=4
 pos:=by decide
 ag:=true
 rel:=fun M w cs x=>∃wv,cs=fS x wv∧SlR nM M w wv x.wit∧fN x.p.i∧fN x.q
 len:=fun ⟨_,h,_⟩=>by rw [h];rfl
 one:=fun ⟨wv,h,hs,_⟩ v hv=>by
  obtain ⟨b,c,rfl⟩:=hs.form
  subst h;simp [fS] at hv;rcases hv with rfl|rfl|rfl|rfl<;>rfl
 step:=fun ⟨wv,h,hs,h2⟩ c hL hM=>⟨wv,h,hs.step c hL hM,h2⟩
def gI (x:TOut):List Value:= [.int .i64 x.v,.string x.s]
def gF:R TOut where
 k:=2
 pos:=by decide
 ag:=true
 rel:=fun _ _ cs x=>cs=gI x∧rT x.v
 len:=fun ⟨h,_⟩=>by rw [h];rfl
 one:=fun ⟨h,_⟩ v hv=>by subst h;simp [gI] at hv;rcases hv with rfl|rfl<;>rfl
 step:=fun h _ _ _=>h
def aK (x:Tx) (iv ov:Value):List Value:= [.int .u32 x.ver,iv,ov,.int .u32 x.lock]
def txR:R Tx where
 k:=4
 pos:=by decide
 ag:=true
 rel:=fun M w cs x=>∃iv ov,cs=aK x iv ov∧SlR inR M w iv x.ins∧SlR gF M w ov x.outs∧fN x.ver∧fN x.lock
 len:=fun ⟨_,_,h,_⟩=>by rw [h];rfl
 one:=fun ⟨iv,ov,h,hi,ho,_⟩ v hv=>by
  obtain ⟨b,c,rfl⟩:=hi.form
  obtain ⟨b',c',rfl⟩:=ho.form
  subst h;simp [aK] at hv;rcases hv with rfl|rfl|rfl|rfl<;>rfl
 step:=fun ⟨iv,ov,h,hi,ho,h2⟩ c hL hM=>⟨iv,ov,h,hi.step c hL hM,ho.step c hL hM,h2⟩
def bE (x:Ent) (iv ov:Value):List Value:= [.int .u32 x.tx.ver,iv,ov,.int .u32 x.tx.lock,.string x.id,.int .i64 x.fee,.int .i64 x.size]
def eD:R Ent where
 k:=7
 pos:=by decide
 ag:=true
 rel:=fun M w cs x=>∃iv ov,cs=bE x iv ov∧SlR inR M w iv x.tx.ins∧SlR gF M w ov x.tx.outs∧fN x.tx.ver∧fN x.tx.lock∧rT x.fee∧rT x.size
 len:=fun ⟨_,_,h,_⟩=>by rw [h];rfl
 one:=fun ⟨iv,ov,h,hi,ho,_⟩ v hv=>by
  obtain ⟨b,c,rfl⟩:=hi.form
  obtain ⟨b',c',rfl⟩:=ho.form
  subst h;simp [bE] at hv;rcases hv with rfl|rfl|rfl|rfl|rfl|rfl|rfl<;>rfl
 step:=fun ⟨iv,ov,h,hi,ho,h2⟩ c hL hM=>⟨iv,ov,h,hi.step c hL hM,ho.step c hL hM,h2⟩
def aP:ByteArray:=str (List.replicate 32 0)
def uZ:Pt:=⟨aP,4294967295⟩
def kB (p:Pt):Bool:=decide (p.s=uZ.s)&&decide (p.i=uZ.i)
def aN (t:Tx):Bool:=decide (t.ins.length=1)&&kB (t.ins.headD default).p
def iW (t:Tx):Bool:=decide (1≤(t.ins.length:Int)∧(t.ins.length:Int)≤256)&&decide (1≤(t.outs.length:Int)∧(t.outs.length:Int)≤256)&&!(t.ins.any fun x=>decide ((x.wit.length:Int)>4))
def uH (x:TOut):Bool:=decide ((x.s.size:Int)>40)
def sX (s:ByteArray):Bool:=decide ((s.size:Int)>80)
def aJ3 (x:TIn):Bool:=x.wit.any sX
def yM (t:Tx):Bool:=t.outs.any uH||t.ins.any aJ3
def xU (t:Tx) (x:TIn):Bool:=!decide ((x.p.s.size:Int)=32)||(kB x.p&&decide ((t.ins.length:Int)>1))
def jV (t:Tx):Bool:=!(t.ins.any (xU t))
def aAe:List Pt→Bool
 | []=>false
 |p::l=>l.contains p||aAe l
def cC (t:Tx):List Pt:=t.ins.map (·.p)
def aCf (t:Tx):Bool:=aAe (cC t).reverse
def values (t:Tx):List Int:=t.outs.map (·.v)
def aG (t:Tx):Int:=if !iW t then 6 else if yM t then 20 else if !jV t then 4 else if aCf t then 7 else nO (values t)
structure Tx.Sm (t:Tx):Prop where
 ins:t.ins.length≤1000
 outs:t.outs.length≤1000
 wit:∀x∈t.ins,x.wit.length≤1000
theorem aYe (l m:List Pt) (h:aAe m=true):aAe (l++m)=true:=by
 induction l with
 |nil=>exact h
 |cons p l ih=>simp only [List.cons_append,aAe,ih,Bool.or_true]
theorem aKi {l:List Pt} {i:Nat} (h:i<l.length):aAe (l.take (i+1)).reverse=((l.take i).contains l[i]||aAe (l.take i).reverse):=by
 grind [List.take_succ_eq_append_getElem,aAe]
theorem aSq {l:List Pt} {i:Nat} (h:aAe (l.take i).reverse=true):aAe l.reverse=true:=by
 grind [List.take_append_drop,aYe]
end
section
open Go
def yK (n:Int):Nat:=(n%18446744073709551616).toNat
theorem bEx (n:Int):yK n<18446744073709551616:=by unfold yK;omega
theorem aR9 (n:Int):IntKind.u64.wrap n=(yK n:Nat):=by
 have h:IntKind.u64.wrap n=n%18446744073709551616:=rfl
 grind [yK]
def dV {α:Type} (f:α→ByteArray) (l:List α):ByteArray:=(l.map f).foldl (·++·) ⟨#[]⟩
theorem uA {α:Type} (f:α→ByteArray):dV f []=⟨#[]⟩:=rfl
theorem bHm {α:Type} (f:α→ByteArray) (l:List α) (x:α):dV f (l++ [x])=dV f l++f x:=by simp [dV]
theorem iB {α:Type} (f:α→ByteArray) {l:List α} {i:Nat} (h:i<l.length):dV f (l.take (i+1))=dV f (l.take i)++f l[i]:=by
 rw [List.take_succ_eq_append_getElem h,bHm]
theorem sN {α:Type} (f:α→ByteArray) (c:Nat):∀l:List α,(∀x∈l,(f x).size≤c)→(dV f l).size≤c*l.length:=by
 intro l h
 suffices hs:∀n,n≤l.length→(dV f (l.take n)).size≤c*n by
  have:=hs l.length (Nat.le_refl _)
  simp_all
 intro n
 induction n with
 |zero=>intro _;exact Nat.zero_le _
 |succ n ih=>
  grind [iB]
def rC (x:TIn):ByteArray:=x.p.s++leS (yK x.p.i) 4++vnS 0++leS (yK x.q) 4
def nV (x:TOut):ByteArray:=leS (yK x.v) 8++(vnS x.s.size++x.s)
def rY (s:ByteArray):ByteArray:=vnS s.size++s
def lP (x:TIn):ByteArray:=vnS x.wit.length++dV rY x.wit
def aIl (b:Bool) (t:Tx):ByteArray:=leS (yK t.ver) 4++(if b then leS 0 1++leS 1 1 else ⟨#[]⟩)
def enc1 (b:Bool) (t:Tx):ByteArray:=aIl b t++vnS t.ins.length
def enc2 (b:Bool) (t:Tx):ByteArray:=enc1 b t++dV rC t.ins++vnS t.outs.length
def enc3 (b:Bool) (t:Tx):ByteArray:=enc2 b t++dV nV t.outs
def enc4 (b:Bool) (t:Tx):ByteArray:=enc3 b t++(if b then dV lP t.ins else ⟨#[]⟩)
def bK (b:Bool) (t:Tx):ByteArray:=enc4 b t++leS (yK t.lock) 4
def aPs (t:Tx):Bool:=t.ins.any fun x=>decide ((x.wit.length:Int)>0)
structure Tx.Sz (t:Tx):Prop where
 ins:t.ins.length≤256
 outs:t.outs.length≤256
 ids:∀x∈t.ins,x.p.s.size≤100
 wit:∀x∈t.ins,x.wit.length≤100
 item:∀x∈t.ins,∀s∈x.wit,s.size≤100
 scr:∀x∈t.outs,x.s.size≤100
section
variable {t:Tx} (h:t.Sz)
include h
theorem Tx.Sz.sm:t.Sm:=⟨by have:=h.ins;omega,by have:=h.outs;omega,fun x hx=>by have:=h.wit x hx;omega⟩
omit h in
theorem Tx.Sz.head (b:Bool):(aIl b t).size≤6:=by
 unfold aIl
 rw [ByteArray.size_append,cN]
 cases b
 ·exact (by decide:4+0≤6)
 ·rw [if_pos rfl,ByteArray.size_append,cN,cN];omega
omit h in
theorem Tx.Sz.e1 (b:Bool):(enc1 b t).size≤15:=by
 grind [Tx.Sz.head,eG,enc1]
theorem Tx.Sz.in1 {x:TIn} (hx:x∈t.ins):(rC x).size≤200:=by
 have:=h.ids x hx;grind [eG,rC,cN]
theorem Tx.Sz.inC (i:Nat):(dV rC (t.ins.take i)).size≤51200:=by
 have h1:=sN rC 200 (t.ins.take i) fun x hx=>h.in1 (List.mem_of_mem_take hx)
 have:=h.ins
 grind
theorem Tx.Sz.e2 (b:Bool):(enc2 b t).size≤52000:=by
 have:=Tx.Sz.e1 (t:=t) b;have hc:=h.inC t.ins.length;grind [eG,enc2]
theorem Tx.Sz.out1 {x:TOut} (hx:x∈t.outs):(nV x).size≤200:=by
 have:=h.scr x hx;grind [eG,nV,cN]
theorem Tx.Sz.outC (i:Nat):(dV nV (t.outs.take i)).size≤51200:=by
 have h1:=sN nV 200 (t.outs.take i) fun x hx=>h.out1 (List.mem_of_mem_take hx)
 have:=h.outs
 grind
theorem Tx.Sz.e3 (b:Bool):(enc3 b t).size≤104000:=by
 have:=h.e2 b;have:=h.outC t.outs.length
 grind [enc3]
theorem Tx.Sz.itemC {x:TIn} (hx:x∈t.ins) (i:Nat):(dV rY (x.wit.take i)).size≤11000:=by
 have h1:=sN rY 110 (x.wit.take i) fun s hs=>by
  have:=h.item x hx s (List.mem_of_mem_take hs);grind [eG,rY]
 have:=h.wit x hx
 grind
theorem Tx.Sz.wit1 {x:TIn} (hx:x∈t.ins):(lP x).size≤12000:=by
 have hc:=h.itemC hx x.wit.length;grind [eG,lP]
theorem Tx.Sz.witC (i:Nat):(dV lP (t.ins.take i)).size≤3072000:=by
 have h1:=sN lP 12000 (t.ins.take i) fun x hx=>h.wit1 (List.mem_of_mem_take hx)
 have:=h.ins
 grind
theorem Tx.Sz.e4 (b:Bool):(enc4 b t).size≤3200000:=by
 have:=h.e3 b;have:=h.witC t.ins.length
 rw [List.take_length] at this
 rw [enc4,ByteArray.size_append]
 cases b
 ·rw [if_neg (by decide)]
  have h0:(⟨#[]⟩:ByteArray).size=0:=rfl
  omega
 grind
end
end
section
open Go
structure S8 where
 a:W32
 b:W32
 c:W32
 d:W32
 e:W32
 f:W32
 g:W32
 h:W32
@[reducible] def S8.l (s:S8):List W32:= [s.a,s.b,s.c,s.d,s.e,s.f,s.g,s.h]
@[reducible] def S8.cs (s:S8):List Value:= [u32 s.a,u32 s.b,u32 s.c,u32 s.d,u32 s.e,u32 s.f,u32 s.g,u32 s.h]
def wCs (l:List W32):List Value:=l.map u32
theorem S8.cs_eq (s:S8):s.cs=wCs s.l:=rfl
def bSb (x:W32):W32:=rot x 2^^^rot x 13^^^rot x 22
def bSa (x:W32):W32:=rot x 6^^^rot x 11^^^rot x 25
def bNd (x:W32):W32:=rot x 7^^^rot x 18^^^x>>>3
def bN1 (x:W32):W32:=rot x 17^^^rot x 19^^^x>>>10
def bBp (s:S8) (k w:W32):W32:=s.h+bSa s.e+(s.e&&& s.f^^^ ~~~s.e&&& s.g)+k+w
def bKc (s:S8):W32:=bSb s.a+(s.a&&& s.b^^^s.a&&& s.c^^^s.b&&& s.c)
def rnd (s:S8) (k w:W32):S8:=⟨bBp s k w+bKc s,s.a,s.b,s.c,s.d+bBp s k w,s.e,s.f,s.g⟩
def wAt (l:List W32) (i:Nat):W32:=l.getD i 0
def jK (b:List W32):Nat→List W32
 |0=> []
 |n+1=>jK b n++ [if n<16 then wAt b n else wAt (jK b n) (n - 16)+bNd (wAt (jK b n) (n - 15))+wAt (jK b n) (n - 7)+bN1 (wAt (jK b n) (n - 2))]
theorem gL (b:List W32):∀n,(jK b n).length=n
 |0=>rfl
 |n+1=>by simp [jK,gL b n]
def bDk (l:List UInt8):W32:=BitVec.ofNat 32 (((l.getD 0 0).toNat*256+(l.getD 1 0).toNat)*256*256+(l.getD 2 0).toNat*256+(l.getD 3 0).toNat)
def lV (m:List UInt8):List W32:=(List.range 16).map fun i=>bDk (m.drop (4*i))
def pM:List W32:= [1116352408,1899447441,3049323471,3921009573,961987163,1508970993,2453635748,2870763221,3624381080,310598401,607225278,1426881987,1925078388,2162078206,2614888103,3248222580,3835390401,4022224774,264347078,604807628,770255983,1249150122,1555081692,1996064986,2554220882,2821834349,2952996808,3210313671,3336571891,3584528711,113926993,338241895,666307205,773529912,1294757372,1396182291,1695183700,1986661051,2177026350,2456956037,2730485921,2820302411,3259730800,3345764771,3516065817,3600352804,4094571909,275423344,430227734,506948616,659060556,883997877,958139571,1322822218,1537002063,1747873779,1955562222,2024104815,2227730452,2361852424,2428436474,2756734187,3204031479,3329325298]
def aCp:S8:=⟨1779033703,3144134277,1013904242,2773480762,1359893119,2600822924,528734635,1541459225⟩
def jW (ws:List W32) (s:S8):Nat→S8
 |0=>s
 |n+1=>rnd (jW ws s n) (wAt pM n) (wAt ws n)
def aZi (s t:S8):S8:=⟨s.a+t.a,s.b+t.b,s.c+t.c,s.d+t.d,s.e+t.e,s.f+t.f,s.g+t.g,s.h+t.h⟩
def aV0 (s:S8) (m:List UInt8):S8:=aZi s (jW (jK (lV m) 64) s 64)
def qZ (n:Nat):Nat:=(119 - n%64)%64
def yW (l:List UInt8):List UInt8:=l++ [128]++List.replicate (qZ l.length) 0++(leL (l.length*8) 8).reverse
theorem aW0 (l:List UInt8):(yW l).length%64=0:=by
 grind [yW,dE,qZ]
def bDz (l:List W32):ByteArray:=dV (fun x:W32=>str (leL x.toNat 4).reverse) l
section
variable {P:Program} {d:Option Tmp} {r:KR} {K:Env→World→Prop} {ρ:Env} {w:World}
theorem fQ {size ln:Nat} {x i:Operand} {kd:IntKind} {ad:Addr} (n:Nat) (hx:ev ρ x=.pointer (some ad)) (hi:ev ρ i=.int kd (n:Nat)) (hr:n<ln) (k:aH P r K (put ρ d (.pointer (some (ad.add (n*size))))) w):aH P (.cons ⟨d,.indexArr size ln x i,none⟩ r) K ρ w:=
 cS rfl (by simp only [KOp.fix,hx,hi];simp [*]) k
theorem bEa {l:List W32} {n:Nat} (h:n<l.length):(wCs l)[n]? =some (u32 (wAt l n)):=by
 simp [wCs,wAt,h]
theorem pV {x:Operand} {ad:Addr} {l:List W32} (n:Nat) (hx:ev ρ x=.pointer (some (ad.add (n*1)))) (h:Row w ad (wCs l)) (hn:n<l.length) (k:aH P r K (put ρ d (u32 (wAt l n))) w):aH P (.cons ⟨d,.load x,none⟩ r) K ρ w:=
 bJr hx h (by rw [Nat.mul_one];exact bEa hn) k
theorem aD8 {x y:Operand} {a b:W32} (hx:ev ρ x=u32 a) (hy:ev ρ y=u32 b) (k:aH P r K (put ρ d (u32 (a+b))) w):aH P (.cons ⟨d,.bin .add x y,none⟩ r) K ρ w:=dF hx hy (bOe a b) k
theorem aDy {x y:Operand} {a b:W32} (hx:ev ρ x=u32 a) (hy:ev ρ y=u32 b) (k:aH P r K (put ρ d (u32 (a&&& b))) w):aH P (.cons ⟨d,.bin .and x y,none⟩ r) K ρ w:=dF hx hy (bMq a b) k
theorem aJ1 {x y:Operand} {a b:W32} (hx:ev ρ x=u32 a) (hy:ev ρ y=u32 b) (k:aH P r K (put ρ d (u32 (a|||b))) w):aH P (.cons ⟨d,.bin .or x y,none⟩ r) K ρ w:=dF hx hy (bDt a b) k
theorem aDx {x y:Operand} {a b:W32} (hx:ev ρ x=u32 a) (hy:ev ρ y=u32 b) (k:aH P r K (put ρ d (u32 (a^^^b))) w):aH P (.cons ⟨d,.bin .xor x y,none⟩ r) K ρ w:=dF hx hy (bNq a b) k
theorem zZ {x y:Operand} {a:W32} {kd:IntKind} (n:Nat) (h:n<32) (hx:ev ρ x=u32 a) (hy:ev ρ y=.int kd (n:Nat)) (k:aH P r K (put ρ d (u32 (a>>>n))) w):aH P (.cons ⟨d,.bin .shr x y,none⟩ r) K ρ w:=dF hx hy (aU5 a kd n h) k
theorem bL5 {x y:Operand} {a:W32} {kd:IntKind} (n:Nat) (h:n<32) (hx:ev ρ x=u32 a) (hy:ev ρ y=.int kd (n:Nat)) (k:aH P r K (put ρ d (u32 (a<<<n))) w):aH P (.cons ⟨d,.bin .shl x y,none⟩ r) K ρ w:=dF hx hy (aUs a kd n h) k
theorem bPr (a:W32):dG .xor .u32 4294967295 (a.toNat:Nat)=some (u32 (~~~a)):=by
 have e:(4294967295:Int)=((BitVec.allOnes 32).toNat:Nat):=by decide
 simp only [dG,IntKind.bits]
 rw [e,mW,mW]
 have h2:(BitVec.allOnes 32^^^a)= ~~~a:=BitVec.allOnes_xor
 exact congrArg some (congrArg (Value.int .u32) ((congrArg (fun x:W32=>IntKind.u32.wrap (x.toNat:Nat)) h2).trans (aJj _)))
theorem aD5 {x:Operand} {a:W32} (hx:ev ρ x=u32 a) (k:aH P r K (put ρ d (u32 (~~~a))) w):aH P (.cons ⟨d,.unNeg true x,none⟩ r) K ρ w:=
 cS rfl (by simp only [KOp.fix,hx,u32,if_true];exact bPr a) k
theorem yF {x:Operand} {b:UInt8} (hx:ev ρ x=.int .u8 (b.toNat:Nat)) (k:aH P r K (put ρ d (u32 (BitVec.ofNat 32 b.toNat))) w):aH P (.cons ⟨d,.conv .u32 x,none⟩ r) K ρ w:=
 cS rfl (by
  simp only [KOp.fix,hx,u32]
  rfl) k
theorem bHq (x:W32):(u32 x).cells=#[u32 x]:=rfl
theorem bQw {e:Operand→Value} {z0 z1 z2 z3 z4 z5 z6 z7:Value} {x0 x1 x2 x3 x4 x5 x6 x7:Operand} {s:S8} (h0:e x0=u32 s.a) (h1:e x1=u32 s.b) (h2:e x2=u32 s.c) (h3:e x3=u32 s.d) (h4:e x4=u32 s.e) (h5:e x5=u32 s.f) (h6:e x6=u32 s.g) (h7:e x7=u32 s.h):
  qI e [z0,z1,z2,z3,z4,z5,z6,z7] [(0,1,x0),(1,1,x1),(2,1,x2),(3,1,x3),(4,1,x4),(5,1,x5),(6,1,x6),(7,1,x7)]=some s.cs:=by
 simp [qI,h0,h1,h2,h3,h4,h5,h6,h7,bHq]
theorem aZ {z:List Value} {ps:List (Nat × Nat × Operand)} {cs:List Value} (hf:qI (ev ρ) z ps=some cs) (k:aH P r K (put ρ d (.agg cs.toArray)) w):aH P (.cons ⟨d,.build z ps,none⟩ r) K ρ w:=cS rfl (by simp [KOp.fix,hf]) k
theorem bDl (s:S8):s.cs.all (fun v=>v.oneCell')=true:=rfl
end
end
section
open Go
theorem aT7 (x:W32) (c:Nat) (hx:x.toNat<16777216) (hc:c<256):(x<<<8|||BitVec.ofNat 32 c).toNat=x.toNat*256+c:=by
 rw [BitVec.toNat_or,BitVec.toNat_shiftLeft,BitVec.toNat_ofNat]
 have e1:x.toNat<<<8%2^32=x.toNat<<<8:=by
  rw [Nat.shiftLeft_eq];exact Nat.mod_eq_of_lt (by omega)
 grind [Nat.shiftLeft_add_eq_or_of_lt,Nat.shiftLeft_eq]
def gM (l:List UInt8):Nat→W32
 |0=>0
 |k+1=>gM l k<<<8|||BitVec.ofNat 32 (l.getD k 0).toNat
theorem bOn (l:List UInt8):gM l 4=bDk l:=by
 have b0:=(l.getD 0 0).toNat_lt
 have b1:=(l.getD 1 0).toNat_lt
 have b2:=(l.getD 2 0).toNat_lt
 have b3:=(l.getD 3 0).toNat_lt
 have h0:(gM l 0).toNat=0:=rfl
 have h1:(gM l 1).toNat=(l.getD 0 0).toNat:=by rw [gM,aT7 _ _ (by omega) (by omega)];omega
 have h2:(gM l 2).toNat=(l.getD 0 0).toNat*256+(l.getD 1 0).toNat:=by rw [gM,aT7 _ _ (by omega) (by omega)];omega
 have h3:(gM l 3).toNat=((l.getD 0 0).toNat*256+(l.getD 1 0).toNat)*256+(l.getD 2 0).toNat:=by rw [gM,aT7 _ _ (by omega) (by omega)];omega
 grind [BitVec.eq_of_toNat_eq,gM,aT7,bDk,BitVec.toNat_ofNat]
theorem bKr {l m:List UInt8} (k:Nat) (h:∀j,j<k→l.getD j 0=m.getD j 0):gM l k=gM m k:=by
 induction k with
 |zero=>rfl
 |succ k ih=>rw [gM,gM,ih fun j hj=>h j (by omega),h k (by omega)]
def oJ (B:List W32) (n:Nat) (x:W32):List W32:=jK B n++x::List.replicate (63 - n) 0
theorem aB7 {B:List W32} {n:Nat} {x:W32} (h:n<64):(oJ B n x).length=64:=by grind [oJ,gL]
theorem aPr {B:List W32} {n:Nat} {x y:W32}:(oJ B n x).set n y=oJ B n y:=by
 have h:(jK B n).length=n:=gL B n
 rw [oJ,List.set_append_right _ _ (by omega),h,Nat.sub_self];rfl
theorem bI5 {B:List W32} {n j:Nat} {x:W32} (h:j<n):wAt (oJ B n x) j=wAt (jK B n) j:=by
 grind [gL,wAt,oJ]
theorem bL2 {B:List W32} {n:Nat} {x:W32}:wAt (oJ B n x) n=x:=by
 have h:(jK B n).length=n:=gL B n
 unfold wAt oJ
 simp [*]
def bFf (B:List W32) (n:Nat):W32:=if n<16 then wAt B n else wAt (jK B n) (n - 16)+bNd (wAt (jK B n) (n - 15))+wAt (jK B n) (n - 7)+bN1 (wAt (jK B n) (n - 2))
theorem bF9 {B:List W32} {n:Nat} (h:n<63):oJ B n (bFf B n)=oJ B (n+1) 0:=by
 obtain ⟨m,hm⟩:∃m,63 - n=m+1:=⟨62 - n,by omega⟩
 rw [oJ,oJ,hm,show 63 - (n+1)=m by omega,jK,List.append_assoc];rfl
theorem aTn {B:List W32}:oJ B 0 0=List.replicate 64 0:=rfl
theorem zX (l:List W32) (n:Nat) (x:W32):(wCs l).set n (u32 x)=wCs (l.set n x):=by simp [wCs,List.map_set]
theorem bQy:List.replicate 64 (Value.int .u32 0)=wCs (List.replicate 64 0):=by
 rfl
theorem bEp {m:List UInt8} {i:Nat} (h:i<16):wAt (lV m) i=bDk (m.drop (4*i)):=by
 grind [wAt,lV]
section
variable {P:Program} {d:Option Tmp} {r:KR} {K:Env→World→Prop} {ρ:Env} {w:World}
theorem Row.left {w:World} {ad:Addr} {a b:List Value} (h:Row w ad (a++b)):Row w ad a:=fun j v hj=>h j v (by
 grind)
theorem bCb {x:Operand} {t:TypeId} {s:ByteArray} (hx:ev ρ x=.string s) (k:∀v w',Ext w w'→SlE u8E w' v s.data.toList→(∀b∈aC v,w.heap.size≤b)→aH P r K (put ρ d v) w'):aH P (.cons ⟨d,.bytesOf t x,none⟩ r) K ρ w:=
 fX ⟨s,hx,fun c hc w' hb hs ht ho hu ⟨fz,hat⟩=>by
  have hl:s.data.toList.length=s.size:=by rw [Array.length_toList];rfl
  refine k _ _ ⟨ho,ht,hu,by omega,fun b hb' _=>hb b hb'⟩ ?_ (by simp [aC])
  refine ⟨u8E.flat_length _,some ⟨w.heap.size,0,none⟩,c,by rw [hl],by omega,fun _=>⟨_,rfl,?_⟩⟩
  refine Row.left (b:=List.replicate (c - s.size) (Value.int .u8 0)) (Row.of_at (t:=t) (f:=fz) ?_)
  rw [aUe]
  exact hat⟩
theorem bIh {x l h:Operand} {s:ByteArray} {kl kh:IntKind} {lo hi:Nat} (hx:ev ρ x=.string s) (hl:ev ρ l=.int kl (lo:Nat)) (hh:ev ρ h=.int kh (hi:Nat)) (h1:lo≤hi) (h2:hi≤s.size) (k:aH P r K (put ρ d (.string (s.extract lo hi))) w):aH P (.cons ⟨d,.sliceStr x (some l) (some h),none⟩ r) K ρ w:=
 cS rfl (by
  simp only [KOp.fix,hx,hl,hh]
  simp [*]) k
theorem aAg (x:W32):(u32 x).oneCell'=true:=rfl
end
theorem aW9 (s:ByteArray) (a b:Nat):(s.extract a b).data.toList=(s.data.toList.drop a).take (b - a):=by
 rw [ByteArray.data_extract,Array.toList_extract,List.extract_eq_take_drop]
theorem bLk (s:ByteArray) (i:Nat):gM (s.extract (4*i) (4*i+4)).data.toList 4=bDk (s.data.toList.drop (4*i)):=by
 rw [←bOn]
 refine bKr 4 fun j hj=>?_
 simp [*]
def mX (B:List W32) (i:Nat):List W32:=if i<64 then oJ B i 0 else jK B 64
theorem aJr {B:List W32} {i:Nat} (h:i<64):oJ B i (bFf B i)=mX B (i+1):=by
 unfold mX
 split
 ·grind [bF9]
 ·obtain rfl:i=63:=by omega
  rfl
theorem aDz {B:List W32} {i:Nat} (h:i<64):mX B i=oJ B i 0:=if_pos h
theorem iR {B:List W32} {i:Nat} (h:i≤64):(mX B i).length=64:=by
 grind [mX,aB7,gL]
theorem aIv {B:List W32} {i j:Nat} (h:i<64) (hj:j<i):wAt (mX B i) j=wAt (jK B i) j:=by
 rw [aDz h,bI5 hj]
theorem cJ (l:List W32):(wCs l).length=l.length:=by simp [wCs]
theorem lJ (l:List W32):(wCs l).all (fun v=>v.oneCell')=true:=by
 simp only [wCs,List.all_map,List.all_eq_true]
 intro x _;rfl
theorem bD9 {B:List W32} {n:Nat} (h:n<16):bFf B n=wAt B n:=if_pos h
theorem bNt {B:List W32} {n:Nat} (h:¬n<16):bFf B n=wAt (jK B n) (n - 16)+bNd (wAt (jK B n) (n - 15))+wAt (jK B n) (n - 7)+bN1 (wAt (jK B n) (n - 2)):=if_neg h
theorem getD_lt {l:List UInt8} {k:Nat} (h:k<l.length):l.getD k 0=l[k]:=by
 simp [*]
theorem bGb {B:List W32} {i k:Nat} {bs:List UInt8} (h:k<bs.length):(wCs (oJ B i (gM bs k))).set (i*1) (u32 (wAt (oJ B i (gM bs k)) i<<<8|||BitVec.ofNat 32 bs[k].toNat))=wCs (oJ B i (gM bs (k+1))):=by
 rw [Nat.mul_one,zX,aPr,bL2,gM,getD_lt h]
theorem bGa {s:ByteArray} {i:Nat} (h:i<16):oJ (lV s.data.toList) i (gM (s.extract (4*i) (4*i+4)).data.toList 4)=mX (lV s.data.toList) (i+1):=by
 rw [bLk,←bEp h,←bD9 h,aJr (by omega)]
theorem bAj {B:List W32} {i:Nat} (h1:16≤i) (h2:i<64):(wCs (mX B i)).set (i*1) (u32 (wAt (mX B i) (i - 16)+bNd (wAt (mX B i) (i - 15))+wAt (mX B i) (i - 7)+bN1 (wAt (mX B i) (i - 2))))=wCs (mX B (i+1)):=by
 rw [aIv h2 (by omega),aIv h2 (by omega),aIv h2 (by omega),aIv h2 (by omega),←bNt (by omega),aDz h2,Nat.mul_one,zX,aPr,aJr h2]
theorem bEt {B:List W32}:mX B 64=jK B 64:=if_neg (by decide)
end
section
open Go
def bCs (l:List UInt8):List Value:=l.map fun b:UInt8=>Value.int .u8 b.toNat
theorem bB5 (l:List UInt8):(bCs l).length=l.length:=by simp [bCs]
def hiL (n k i:Nat):List UInt8:=List.replicate (k - i) 0++(leL n i).reverse
theorem aP6 {n k i:Nat} (h:i≤k):(hiL n k i).length=k:=by grind [hiL,dE]
theorem set_mid (m:Nat) (x:UInt8) (R:List UInt8):(List.replicate (m+1) 0++R).set m x=List.replicate m 0++x::R:=by
 induction m with
 |zero=>rfl
 |succ m ih=>
  grind
theorem bMn {n k i o:Nat} (h:i<k) (ho:o=k - 1 - i):(bCs (hiL n k i)).set o (.int .u8 (IntKind.u8.wrap ((n / 256^i:Nat):Int)))=bCs (hiL n k (i+1)):=by
 subst ho
 rw [aDw,bCs,bCs]
 have e:Value.int .u8 ((UInt8.ofNat (n / 256^i)).toNat:Nat)=(fun b:UInt8=>Value.int .u8 b.toNat) (UInt8.ofNat (n / 256^i)):=rfl
 rw [e,←List.map_set]
 congr 1
 obtain ⟨m,hm⟩:∃m,k - i=m+1:=⟨k - i - 1,by omega⟩
 grind [hiL,set_mid,leL]
theorem bSe {n i:Nat}:Int.fdiv ((n / 256^i:Nat):Int) (2^(min (8:Int).toNat IntKind.u64.bits))=((n / 256^(i+1):Nat):Int):=by
 rw [Nat.pow_succ,←Nat.div_div_eq_div_mul]
 rw [Int.fdiv_eq_ediv_of_nonneg _ (by decide)]
 rfl
section
variable {P:Program} {d:Option Tmp} {r:KR} {K:Env→World→Prop} {ρ:Env} {w:World}
theorem aWf (n:Nat):zeros [Value.int .u8 0] n=bCs (List.replicate n 0):=by
 induction n with
 |zero=>rfl
 |succ n ih=>rw [zeros,ih];rfl
theorem bPd {x y:Operand} {t:TypeId} {n:Nat} (hx:ev ρ x=.int .i64 (n:Nat)) (hy:ev ρ y=.int .i64 (n:Nat)) (hn:n≤1000)
  (k:∀b w',Ext w w'→At w' b (.cells (bCs (List.replicate n 0)).toArray t (0,0))→w.heap.size≤b→aH P r K (put ρ d (.slice (some ⟨b,0,none⟩) n n)) w'):aH P (.cons ⟨d,.makeSlice t 1 1 [.int .u8 0] x y,none⟩ r) K ρ w:=
 fX ⟨_,_,_,_,hx,hy,by omega,by omega,by omega,by omega,by
  rw [Int.toNat_natCast,aWf]
  exact k _ _ (Ext.alloc _ _) (At.new _ _) (Nat.le_refl _)⟩
theorem aN5 {x y:Operand} {n m:Nat} (hx:ev ρ x=.int .i64 (n:Nat)) (hy:ev ρ y=.int .i64 (m:Nat)) (h0:0<m) (k:aH P r K (put ρ d (.int .i64 ((n%m:Nat):Int))) w):aH P (.cons ⟨d,.bin .rem x y,none⟩ r) K ρ w:=
 dF hx hy (by
  have hne:(m:Int)≠0:=by omega
  simp only [bM,dK,Bool.false_eq_true,if_false,if_true,dG]
  grind) k
theorem bKh {b n c:Nat} {l:List UInt8} {t:TypeId} (h:At w b (.cells (bCs l).toArray t (0,0))) (hl:n=l.length) (hc:n≤c):SlE u8E w (.slice (some ⟨b,0,none⟩) n c) l:=
 SlE.new (E:=u8E) (by rw [aUe];exact h) hl hc
end
theorem bLo (s:ByteArray):s=str s.data.toList:=by rfl
theorem bQk (s:ByteArray):s++⟨#[128]⟩++str (List.replicate (qZ s.size) 0)++str (leL (s.size*8) 8).reverse=str (yW s.data.toList):=by
 rfl
end
section
open Go
def dZ (m:List UInt8):Nat→S8
 |0=>aCp
 |n+1=>aV0 (dZ m n) (m.drop (64*n))
def aRb (s:ByteArray):ByteArray:=bDz (dZ (yW s.data.toList) ((yW s.data.toList).length / 64)).l
def cM (s:ByteArray):ByteArray:=aRb (aRb s)
theorem aYw (s:ByteArray):(yW s.data.toList).length=64*((yW s.data.toList).length / 64):=by
 grind [aW0]
theorem bE4 (s:ByteArray):(yW s.data.toList).length≤s.size+73:=by
 have hl:s.data.toList.length=s.size:=by rw [Array.length_toList];rfl
 grind [yW,dE,qZ]
theorem aSz (s:ByteArray):(aRb s).size=32:=by
 rfl
def addN (a b:List W32) (n:Nat):List W32:=(List.range 8).map fun i=>if i<n then wAt a i+wAt b i else wAt a i
theorem wA (a b:List W32) (n:Nat):(addN a b n).length=8:=by rfl
theorem bL8 {a b:List W32} {n i:Nat} (h:i<8):wAt (addN a b n) i=if i<n then wAt a i+wAt b i else wAt a i:=by
 grind [addN,wAt]
theorem bFr (s t:S8):addN s.l t.l 0=s.l:=rfl
theorem aQd (s t:S8):addN s.l t.l 8=(aZi s t).l:=rfl
theorem bLw {a b:List W32} {n:Nat} (h:n<8):(addN a b n).set n (wAt a n+wAt b n)=addN a b (n+1):=by
 apply List.ext_getElem
 ·simp [addN]
 ·intro i h1 h2
  simp only [List.getElem_set,addN,List.getElem_map,List.getElem_range]
  grind
theorem aXq {a b:List W32} {n:Nat} (h:n<8):(wCs (addN a b n)).set (n*1) (u32 (wAt (addN a b n) n+wAt b n))=wCs (addN a b (n+1)):=by
 rw [bL8 h,if_neg (by omega),Nat.mul_one,zX,bLw h]
section
variable {P:Program} {d:Option Tmp} {r:KR} {K:Env→World→Prop} {ρ:Env} {w:World}
theorem dN {a b:KR} {σ:Type} (I:σ→World→Prop) (E:σ→List (Tmp × Value)) (h1:aH P a (fun ρ' w'=>∃s,Has ρ' (E s)∧I s w') ρ w) (h2:∀s ρ w,I s w→aH P b K (bFh ρ (E s)) w):aH P (.join a b) K ρ w:=
 bE9 (kH (fun ρ w ⟨s,g1,g2⟩=>by have:=h2 s ρ w g2;grind [aNb]) a h1)
theorem bJm {x:Operand} {a:W32} (hx:ev ρ x=u32 a) (k:aH P r K (put ρ d (.int .u64 (a.toNat:Nat))) w):aH P (.cons ⟨d,.conv .u64 x,none⟩ r) K ρ w:=
 cS rfl (by
  simp only [KOp.fix,hx,u32]
  rw [eZ (by omega) (by omega)]) k
theorem bNh {x i:Operand} {l:List W32} {kd:IntKind} {n ln:Nat} (hx:ev ρ x=.agg (wCs l).toArray) (hi:ev ρ i=.int kd (n:Nat)) (hn:n<ln) (hl:l.length=ln) (k:aH P r K (put ρ d (u32 (wAt l n))) w):aH P (.cons ⟨d,.indexAgg ln x i,none⟩ r) K ρ w:=
 cS rfl (by
  simp only [KOp.fix,hx,hi]
  rw [if_pos (by omega),Int.toNat_natCast,List.getElem?_toArray,bEa (by omega)]) k
end
theorem bKj (s:ByteArray) (n:Nat):s.extract n s.size=str (s.data.toList.drop n):=by
 have h:=aW9 s n s.size
 have hl:s.data.toList.length=s.size:=by rw [Array.length_toList];rfl
 grind [bLo,List.length_drop]
theorem aY9 (l:List UInt8):(str l).data.toList=l:=by rfl
end
section
open Go
theorem bFc (n:Nat):∀(k i:Nat) (h:i<(leL n k).length),(leL n k)[i]=UInt8.ofNat (n / 256^i)
 |0,i,h=>by simp [leL] at h
 |k+1,i,h=>by
  rw [dE] at h
  simp only [leL]
  by_cases hi:i<k
  ·rw [List.getElem_append_left (by grind [dE]),bFc n k i]
  ·obtain rfl:i=k:=by omega
   grind [dE]
theorem bK5 {n c:Nat} (h:c<8):(leL n 8).reverse.take (c+1)=(leL n 8).reverse.take c++ [UInt8.ofNat (n / 256^(7 - c))]:=by
 grind [List.take_succ_eq_append_getElem,dE,bFc]
def aFx (l:List UInt8) (k:Nat):List UInt8:=l++ [128]++List.replicate k 0
theorem aY6 (l:List UInt8) (k:Nat):(aFx l k).length=l.length+1+k:=by simp [aFx];omega
theorem bGk (l:List UInt8) (k:Nat):aFx l (k+1)=aFx l k++ [0]:=by simp [aFx,List.replicate_succ']
theorem bNj (l:List UInt8):yW l=aFx l (qZ l.length)++(leL (l.length*8) 8).reverse.take 8:=by
 rfl
theorem bN2 {n k:Nat} (h:(n+1+k)%64=56) (hk:k≤qZ n):k=qZ n:=by grind [qZ]
theorem bL4 {n k:Nat} (h:¬(n+1+k)%64=56) (hk:k≤qZ n):k<qZ n:=by grind [qZ]
theorem bMi (a b:W32):bM .mul (u32 a) (u32 b)=some (u32 (a*b)):=aJc (by
 rfl) rfl
theorem bO4 (a b c d p q r:Nat):BitVec.ofNat 32 a*BitVec.ofNat 32 p+BitVec.ofNat 32 b*BitVec.ofNat 32 q+BitVec.ofNat 32 c*BitVec.ofNat 32 r+BitVec.ofNat 32 d=BitVec.ofNat 32 (a*p+b*q+c*r+d):=by
 rw [←BitVec.ofNat_mul,←BitVec.ofNat_mul,←BitVec.ofNat_mul,←BitVec.ofNat_add,←BitVec.ofNat_add,←BitVec.ofNat_add]
theorem bP0 (a b c d:UInt8):BitVec.ofNat 32 a.toNat*BitVec.ofNat 32 16777216+BitVec.ofNat 32 b.toNat*BitVec.ofNat 32 65536+BitVec.ofNat 32 c.toNat*BitVec.ofNat 32 256+BitVec.ofNat 32 d.toNat=BitVec.ofNat 32 (((a.toNat*256+b.toNat)*256*256+c.toNat*256+d.toNat)):=
 (bO4 _ _ _ _ _ _ _).trans (congrArg (BitVec.ofNat 32) (by omega))
theorem bQz {l:List UInt8} {i:Nat} (h:i<16) (hl:l.length=64):BitVec.ofNat 32 (l[4*i]'(by omega)).toNat*BitVec.ofNat 32 16777216+BitVec.ofNat 32 (l[4*i+1]'(by omega)).toNat*BitVec.ofNat 32 65536+BitVec.ofNat 32 (l[4*i+2]'(by omega)).toNat*BitVec.ofNat 32 256+BitVec.ofNat 32 (l[4*i+3]'(by omega)).toNat=wAt (lV l) i:=by
 rw [bEp h,bP0,bDk]
 grind
theorem bQh {B:List W32} {i:Nat} (h:i<16):(wCs (mX B i)).set (i*1) (u32 (wAt B i))=wCs (mX B (i+1)):=by
 rw [←bD9 h,aDz (by omega),Nat.mul_one,zX,aPr,aJr (by omega)]
theorem bGf (l:List UInt8):lV (l.take 64)=lV l:=by
 unfold lV
 refine List.map_congr_left fun i hi=>?_
 have hi':i<16:=by simpa using hi
 unfold bDk
 grind
theorem bF4 (s:S8) (l:List UInt8):aV0 s (l.take 64)=aV0 s l:=by unfold aV0;rw [bGf]
def shN (l:List W32) (c:Nat):List W32:=(List.range 8).map fun j=>if j≤7 - c then wAt l j else wAt l (j - 1)
theorem aNt (l:List W32) (c:Nat):(shN l c).length=8:=by rfl
theorem bQb {l:List W32} {c j:Nat} (h:j<8):wAt (shN l c) j=if j≤7 - c then wAt l j else wAt l (j - 1):=by
 grind [shN,wAt]
theorem bN8 {l:List W32} {c:Nat} (h:c<7):(shN l c).set (7 - c) (wAt l (6 - c))=shN l (c+1):=by
 apply List.ext_getElem
 ·simp [shN]
 ·intro i h1 h2
  simp only [List.getElem_set,shN,List.getElem_map,List.getElem_range]
  grind
theorem bIx (s:S8):shN s.l 0=s.l:=rfl
theorem bMf {l:List W32} {c o:Nat} (h:c<7) (ho:o=7 - c):(wCs (shN l c)).set (o*1) (u32 (wAt (shN l c) (6 - c)))=wCs (shN l (c+1)):=by
 subst ho
 rw [bQb (by omega),if_pos (by omega),Nat.mul_one,zX,bN8 h]
theorem bRj (s:S8) (k w:W32):(rnd s k w).l= [bBp s k w+bKc s,s.a,s.b,s.c,s.d+bBp s k w,s.e,s.f,s.g]:=rfl
theorem bP2 (s:S8) (t u:W32):(((shN s.l 7).set 4 (wAt (shN s.l 7) 4+t)).set 0 (t+u))= [t+u,s.a,s.b,s.c,s.d+t,s.e,s.f,s.g]:=rfl
theorem bFg (s t:S8):aZi s t=aZi t s:=by simp only [aZi,BitVec.add_comm]
section
variable {P:Program} {d:Option Tmp} {r:KR} {K:Env→World→Prop} {ρ:Env} {w:World}
theorem aV1 {x y:Operand} {a b:W32} (hx:ev ρ x=u32 a) (hy:ev ρ y=u32 b) (k:aH P r K (put ρ d (u32 (a*b))) w):aH P (.cons ⟨d,.bin .mul x y,none⟩ r) K ρ w:=dF hx hy (bMi a b) k
theorem aL {o:KOp} (v:Value) (hs:o.isFix=true) (h:o.fix ρ=some v) (k:aH P r K (put ρ d v) w):aH P (.cons ⟨d,o,none⟩ r) K ρ w:=cS hs h k
theorem bP8 {x:Operand} {a:W32} (hx:ev ρ x=u32 a) (k:aH P r K (put ρ d (.int .u8 ((UInt8.ofNat a.toNat).toNat:Nat))) w):aH P (.cons ⟨d,.conv .u8 x,none⟩ r) K ρ w:=
 cS rfl (by grind [KOp.fix,u32,aDw]) k
theorem bG2 {α:Type} {E:Enc α} {size:Nat} {x a h:Operand} {v:Value} {l:List α} {ka kd:IntKind} {lo hi:Nat} (hx:ev ρ x=v) (ha:ev ρ a=.int ka (lo:Nat)) (hh:ev ρ h=.int kd (hi:Nat)) (hs:SlE E w v l) (h1:lo≤hi) (hn:hi≤l.length) (hk:size=E.k)
  (k:∀v',SlE E w v' ((l.drop lo).take (hi - lo))→(∀b∈aC v',b∈aC v)→aH P r K (put ρ d v') w):aH P (.cons ⟨d,.sliceSl size x (some a) (some h),none⟩ r) K ρ w:=by
 subst hk
 obtain ⟨hl,base,cap,rfl,hc,hr⟩:=hs
 have h2:=SlE.cut (E:=E) (lo:=lo) (hi:=hi) ⟨hl,base,cap,rfl,hc,hr⟩ h1 hn (cap - lo) (by omega)
 refine cS rfl (v:=.slice (if cap=lo then base else base.map fun ad:Addr=>ad.add (lo*E.k)) (hi - lo) (cap - lo)) ?_ (k _ h2 ?_)
 ·simp only [KOp.fix,hx,hh,ha,Option.bind_some,Option.map_some]
  rw [if_pos (by omega)]
  simp [*]
 ·intro b hb
  cases base with
  |none=>simp [aC] at hb
  |some a=>split at hb<;>simpa [aC,add_block] using hb
end
theorem be4 (x:W32): [UInt8.ofNat (x>>>24).toNat,UInt8.ofNat (x>>>16).toNat,UInt8.ofNat (x>>>8).toNat,UInt8.ofNat x.toNat]=(leL x.toNat 4).reverse:=by
 grind [Nat.shiftRight_eq_div_pow,leL]
end
section
open Go
def idT (t:Tx):ByteArray:=cM (bK false t)
def aAx (t:Tx):Nat:=3*(bK false t).size+(bK (aPs t) t).size
def aQ (t:Tx):Nat:=(aAx t+3) / 4
theorem bLn (t:Tx):(idT t).size=32:=by rfl
theorem Tx.Sz.all {t:Tx} (h:t.Sz) (b:Bool):(bK b t).size≤3300000:=by
 have:=h.e4 b
 rw [bK,ByteArray.size_append,cN];omega
theorem Tx.Sz.weight {t:Tx} (h:t.Sz):aAx t≤13200000:=by
 have:=h.all false;have:=h.all (aPs t)
 unfold aAx;omega
theorem Tx.Sz.size {t:Tx} (h:t.Sz):aQ t≤3300001:=by
 have:=h.weight
 unfold aQ;omega
end
section
open Go
theorem bCo {p q:Pt} (h1:p.s=q.s) (h2:p.i=q.i):p=q:=by cases p;simp_all
end
section
open Go
def eN (l:List En) (p:Pt):Option Nat:=l.findIdx? fun e=>decide (e.1=p)
def jP (l:List En) (p:Pt):Int:=match eN l p with
 |some i=>i
 |none=> -1
theorem aLq {l:List En} {p:Pt}:eN l p=none↔∀e∈l,e.1≠p:=by simp [eN,List.findIdx?_eq_none_iff]
theorem aDq {l:List En} {p:Pt} {i:Nat}:eN l p=some i↔∃h:i<l.length,l[i].1=p∧∀j,∀hj:j<i,l[j].1≠p:=by
 rw [eN,List.findIdx?_eq_some_iff_getElem];simp
theorem bKl {l:List En} {i:Nat} (h:i<l.length):tot (l.take (i+1))=tot (l.take i)+l[i].2.v:=by
 rw [List.take_succ_eq_append_getElem h,aFp];simp
theorem aDc {l:List En} (h:Mon l) (i:Nat):0≤tot (l.take i)∧tot (l.take i)≤tot l:=by
 have h1:0≤tot (l.take i):=Mon.pos fun e he=>h.1 e (List.mem_of_mem_take he)
 have h2:0≤tot (l.drop i):=Mon.pos fun e he=>h.1 e (List.mem_of_mem_drop he)
 grind [aFp,List.take_append_drop]
def iU (p:Pt) (c:Cn) (s:List En × Bool) (e:En):List En × Bool:=if lA p e.1&&!s.2 then (s.1++ [(p,c)]++ [e],true) else (s.1++ [e],s.2)
def cW (p:Pt) (c:Cn) (l:List En):List En × Bool:=l.foldl (iU p c) ([],false)
def aV7 (p:Pt) (c:Cn) (l:List En):List En:=if (cW p c l).2 then (cW p c l).1 else (cW p c l).1++ [(p,c)]
theorem aMo {p:Pt} {c:Cn} {l:List En} {i:Nat} (h:i<l.length):cW p c (l.take (i+1))=iU p c (cW p c (l.take i)) l[i]:=by
 rw [List.take_succ_eq_append_getElem h,cW,List.foldl_append];rfl
theorem bA0 (p:Pt) (c:Cn) (l:List En):(cW p c l).1.length≤l.length+1∧((cW p c l).2=false→(cW p c l).1.length=l.length):=by
 have key:∀(l:List En) (s:List En × Bool),(l.foldl (iU p c) s).1.length+(if s.2 then 1 else 0)=s.1.length+l.length+(if (l.foldl (iU p c) s).2 then 1 else 0):=by
  intro l
  induction l with
  |nil=>simp
  |cons e l ih=>
   grind [iU]
 have:=key l ([],false)
 simp only [List.length_nil,Nat.zero_add,Bool.false_eq_true,if_false,Nat.add_zero] at this
 grind [cW]
def aV (l:List En) (p:Pt) (c:Cn):Int:=if dL p c then (if (eN l p).isSome then 7 else if bT (tot l+c.v) then 0 else 3) else 2
def cR (l:List En) (p:Pt) (c:Cn):List En:=if aV l p c=0 then aV7 p c l else l
def cH (l:List En) (p:Pt):Int:=if (eN l p).isSome then 0 else 8
def cY (l:List En) (p:Pt):List En:=match eN l p with
 |some i=>l.eraseIdx i
 |none=>l
def dH (l:List En) (p:Pt):Cn:=match eN l p with
 |some i=>((l[i]?).map (·.2)).getD cn0
 |none=>cn0
theorem aVe {l:List En} {p:Pt} {n:Nat} (h:eN l p=some n) (hn:n<l.length):dH l p=l[n].2:=by
 grind [dH]
theorem aJz {l:List En} {p:Pt} {n:Nat} (h:eN l p=some n):cH l p=0:=by rw [cH,h];rfl
theorem vH {l:List En} {p:Pt} {c:Cn} (h:dL p c=false):aV l p c=2:=by rw [aV,h];rfl
theorem aXh {l:List En} {p:Pt} {c:Cn} {n:Nat} (h:dL p c=true) (hd:eN l p=some n):aV l p c=7:=by grind [aV]
theorem aLm {l:List En} {p:Pt} {c:Cn} (h:dL p c=true) (hd:eN l p=none):aV l p c=if bT (tot l+c.v) then 0 else 3:=by grind [aV]
theorem bB3 {p:Pt} {c:Cn} {l:List En} {i:Nat} (h:i<l.length) (h1:lA p l[i].1=true) (h2:(cW p c (l.take i)).2=false):cW p c (l.take (i+1))=((cW p c (l.take i)).1++ [(p,c)]++ [l[i]],true):=by
 grind [aMo,iU]
theorem bCn {p:Pt} {c:Cn} {l:List En} {i:Nat} (h:i<l.length) (h1:lA p l[i].1=false∨(cW p c (l.take i)).2=true):cW p c (l.take (i+1))=((cW p c (l.take i)).1++ [l[i]],(cW p c (l.take i)).2):=by
 grind [aMo,iU]
theorem aFh {l:List En} {i n:Nat} (h:i<l.length):(l.take (i+1)).eraseIdx n=if i=n then (l.take i).eraseIdx n else (l.take i).eraseIdx n++ [l[i]]:=by
 rw [List.take_succ_eq_append_getElem h]
 by_cases e:i=n
 ·subst e
  rw [if_pos rfl,List.eraseIdx_append_of_length_le (by grind)]
  have e1:i - (l.take i).length=0:=by simp;omega
  grind
 ·rw [if_neg e]
  grind [List.eraseIdx_of_length_le]
def Srt (l:List En):Prop:=l.Pairwise fun a b=>lA a.1 b.1=true
theorem aJn:∀{l' l:List En},l'.Perm l→l'.Pairwise (fun a b=>lA b.1 a.1=false)→Srt l→l'=l
 | [],l,hp,_,_=>by rw [List.nil_perm.1 hp]
 |y::ys, [],hp,_,_=>by simp_all
 |y::ys,x::xs,hp,h1,h2=>by
  have h2':=List.pairwise_cons.1 h2
  have h1':=List.pairwise_cons.1 h1
  have e:y=x:=by
   have hy:y∈x::xs:=hp.mem_iff.1 (by simp)
   have hx:x∈y::ys:=hp.mem_iff.2 (by simp)
   rcases List.mem_cons.1 hy with h|h
   ·exact h
   ·rcases List.mem_cons.1 hx with g|g
    ·exact g.symm
    ·have a:=h2'.1 y h
     have b:=h1'.1 x g
     rw [a] at b;cases b
  subst e
  rw [aJn (List.Perm.cons_inv hp) h1'.2 h2'.2]
end
section
open Go
theorem sJ {l:List En} (h:Srt l):(l.map (·.1)).Nodup:=by
 rw [List.Nodup,List.pairwise_map]
 exact h.imp fun hab e=>by grind [aBu]
theorem aPa {m:List En} {p:Pt} {c:Cn} (hn:(m.map (·.1)).Nodup) (h:(p,c)∈m):aS m p=some c:=by
 induction m with
 |nil=>cases h
 |cons e m ih=>
  simp only [List.map_cons,List.nodup_cons] at hn
  rw [aTd]
  grind
theorem xV {m l:List En} (hp:m.Perm l) (hs:Srt l) (p:Pt):aS m p=aS l p:=by
 have hl:=sJ hs
 have hm:(m.map (·.1)).Nodup:=(hp.map _).nodup_iff.2 hl
 cases h:aS l p with
 |some c=>grind [aPa,nI]
 |none=>
  grind [aS,aPa,nI]
theorem wH {l:List En} {p:Pt} {n:Nat} (h:eN l p=some n) (hn:n<l.length):aS l p=some l[n].2:=by
 grind [tQ,eN]
theorem wI {l:List En} {p:Pt} (h:eN l p=none):aS l p=none:=by
 grind [tQ,eN]
theorem aT6 {l:List En} {p:Pt} {n:Nat} (h:eN l p=some n):n<l.length:=(aDq.1 h).1
theorem aAu (l:List En) (p:Pt):(aS l p).isSome=(eN l p).isSome:=by
 cases h:eN l p with
 |none=>rw [wI h];rfl
 |some n=>rw [wH h (aT6 h)];rfl
section
variable {m l:List En} (hp:m.Perm l) (hs:Srt l)
include hp hs
theorem aSh (p:Pt):yT m p=cH l p:=by
 rw [yT,cH,xV hp hs,aAu]
theorem aD3 (p:Pt):lF m p=dH l p:=by
 rw [lF,xV hp hs]
 grind [wI,dH,wH,aT6]
theorem aQo (p:Pt) (c:Cn):gZ m p c=aV l p c:=by
 rw [gZ,aV,xV hp hs,aAu,aB4 hp]
end
theorem sG {l:List En} (hs:Srt l) (p:Pt):cY l p=lE l p:=by
 grind [cY,eN,aMh,aHf,sJ]
theorem aNy {m l:List En} (hp:m.Perm l) (hs:Srt l) (p:Pt):(aHq m p).Perm (cY l p)∧Srt (cY l p)∧(cY l p).length≤l.length:=by
 rw [sG hs,aHq]
 refine ⟨hp.filter _,?_,List.length_filter_le _ _⟩
 exact List.Pairwise.sublist List.filter_sublist hs
def ins (p:Pt) (c:Cn):List En→List En
 | []=> [(p,c)]
 |e::l=>if lA p e.1 then (p,c)::e::l else e::ins p c l
theorem aWx (p:Pt) (c:Cn):∀(l out:List En),l.foldl (iU p c) (out,true)=(out++l,true)
 | [],out=>by simp
 |e::l,out=>by
  rw [List.foldl_cons]
  have:iU p c (out,true) e=(out++ [e],true):=by simp [iU]
  rw [this,aWx p c l];simp
theorem aT0 (p:Pt) (c:Cn):∀(l out:List En),(let s:=l.foldl (iU p c) (out,false);if s.2 then s.1 else s.1++ [(p,c)])=out++ins p c l
 | [],out=>by rfl
 |e::l,out=>by
  rw [List.foldl_cons]
  by_cases h:lA p e.1=true
  ·have:iU p c (out,false) e=(out++ [(p,c)]++ [e],true):=by simp [iU,h]
   rw [this,aWx]
   simp [ins,h]
  ·have h:lA p e.1=false:=by simpa using h
   have:iU p c (out,false) e=(out++ [e],false):=by simp [iU,h]
   rw [this,aT0 p c l]
   simp [ins,h]
theorem bFt (p:Pt) (c:Cn) (l:List En):aV7 p c l=ins p c l:=by
 have:=aT0 p c l []
 rw [List.nil_append] at this
 exact this
theorem aOf (p:Pt) (c:Cn):∀l:List En,(ins p c l).Perm ((p,c)::l)
 | []=>List.Perm.refl _
 |e::l=>by
  unfold ins
  split
  ·exact List.Perm.refl _
  ·exact ((aOf p c l).cons e).trans (List.Perm.swap _ _ _)
theorem bEf (p:Pt) (c:Cn):∀{l:List En},Srt l→(∀e∈l,e.1≠p)→Srt (ins p c l)
 | [],_,_=>by simp [ins,Srt]
 |e::l,hs,hn=>by
  have hs':=List.pairwise_cons.1 hs
  unfold ins
  split
  ·rename_i h
   refine List.pairwise_cons.2 ⟨fun x hx=>?_,hs⟩
   grind [aAa]
  ·rename_i h
   refine List.pairwise_cons.2 ⟨fun x hx=>?_,bEf p c hs'.2 (fun x hx=>hn x (by grind))⟩
   grind [aOf,aY1]
theorem aG4 {m l:List En} (hp:m.Perm l) (hs:Srt l) (p:Pt) (c:Cn):(aC1 m p c).Perm (cR l p c)∧Srt (cR l p c)∧(cR l p c).length≤l.length+1:=by
 have hc:=aQo hp hs p c
 unfold aC1 cR
 rw [hc]
 split
 ·rename_i h0
  rw [bFt]
  have hi:eN l p=none:=by
   unfold aV at h0
   cases h:eN l p with
   |none=>rfl
   |some n=>
    grind
  have h1:=aOf p c l
  refine ⟨?_,bEf p c hs (aLq.1 hi),by rw [h1.length_eq];simp⟩
  grind
 simp [*]
end
section
open Go
end
section
open Go
end
end Go.K
