/- The engine, part 14: short names of steps; facts carried on. Plain: amounts; words of 32 bits. Plain: points, coins, the order of points, the limits. Plain: sets of coins as lists of pairs. Plain: bytes, the lowest first; numbers in one, three, five or nine bytes. Plain: transactions and entries, and how they lie. The engine, part 15: a builder of text. -/
import Derived.Lib.Bytealg
import Derived.Lib.OthersKept
import Derived.Test.YtfebcajheojodaaGreatDoorDc9
set_option linter.unusedVariables false
set_option linter.unusedSimpArgs false
section
namespace Go.K
open Go
theorem SlE.x {α:Type} {E:Enc α} {w w':World} {v:Value} {l:List α} (c:Ext w w') (h:SlE E w v l):SlE E w' v l:=h.ext c
theorem SlR.x {α:Type} {E:R α} {M:List Nat} {w w':World} {v:Value} {l:List α} (c:Ext w w') (h:SlR E M w v l):SlR E M w' v l:=h.ext c
theorem OwnR.x {α:Type} {E:R α} {t:TypeId} {B:Nat} {M:List Nat} {w w':World} {v:Value} {l:List α} (c:Ext w w') (h:OwnR E t B M w v l):OwnR E t B M w' v l:=h.ext c
theorem R.x {α:Type} {E:R α} {M:List Nat} {w w':World} {cs:List Value} {x:α} (c:Ext w w') (h:E.rel M w cs x):E.rel M w' cs x:=E.step h c (by simp) (fun _ h=>.inl h)
theorem MapR.x {κ β:Type} [DecidableEq κ] {KE:KEnc κ} {F:R β} {M:List Nat} {w w':World} {b:Nat} {m:List (κ × β)} (c:Ext w w') (h:MapR KE F M w b m):MapR KE F M w' b m:=h.ext c
theorem Ext.c {w w' w'':World} (c:Ext w' w'') (h:Ext w w'):Ext w w'':=h.trans c
theorem le_x {w w':World} {n:Nat} (c:Ext w w') (h:n≤w.heap.size):n≤w'.heap.size:=Nat.le_trans h c.size
section
variable {P:Program} {d:Option Tmp} {r:KR} {K:Env→World→Prop} {ρ:Env} {w:World}
theorem g_onT {o:KOp} {t:Tmp} {b:Bool} (h:ρ t=.bool b) (k:regK P (.cons ⟨d,o,none⟩ r) K ρ w):regK P (.cons ⟨d,o,some (t,b)⟩ r) K ρ w:=g_on (by simp [wantK,h]) k
theorem g_offT {o:KOp} {t:Tmp} {b c:Bool} (h:ρ t=.bool c) (hc:(c==b)=false) (k:regK P r K (put ρ d undef) w):regK P (.cons ⟨d,o,some (t,b)⟩ r) K ρ w:=g_off (by simp [wantK,h,hc]) k
theorem g_offU {o:KOp} {t:Tmp} {b:Bool} (h:ρ t=undef) (k:regK P r K (put ρ d undef) w):regK P (.cons ⟨d,o,some (t,b)⟩ r) K ρ w:=g_off (by simp [wantK,h,undef]) k
end
abbrev z0:=@st_move
abbrev z1:=@st_end
abbrev z2:=@g_on
abbrev z3:=@g_off
abbrev z4:=@st_min
abbrev z5:=@st_add
abbrev z6:=@st_sub
abbrev z7:=@st_fix
abbrev z8:=@st_ld0
abbrev z9:=@st_ld1
abbrev za:=@st_ld2
abbrev zb:=@st_ld3
abbrev zc:=@st_lN0
abbrev zd:=@st_lN1
abbrev ze:=@st_lN2
abbrev zf:=@c_sreg
abbrev zg:=@c_sregd
abbrev zh:=@c_reg
abbrev zi:=@c_regd
abbrev zj:=@c_seq
abbrev zk:=@c_block
abbrev zl:=@c_skip
abbrev zm:=@c_ret
abbrev zn:=@c_exit
abbrev zo:=@x_then
abbrev zp:=@x_then_ret
abbrev zq:=@x_then_exit
abbrev zr:=@x_block
abbrev zs:=@x_block_ret
abbrev zt:=@x_block_exit
abbrev zu:=@x_block_other
abbrev zv:=@x_loop
abbrev zw:=@x_loop_ret
abbrev zx:=@x_loop_exit
abbrev zy:=@c_true
abbrev zz:=@c_false
abbrev zA:=@st_join
abbrev zB:=@st_both
abbrev zC:=@st_call
abbrev zD:=@st_box
abbrev zE:=@st_local
abbrev zF:=@st_pc
abbrev zG:=@st_lenR
abbrev zH:=@st_alloc
abbrev zI:=@st_buildSlice
abbrev zJ:=@g_split
abbrev zK:=@g_cases
abbrev zL:=@c_cond
abbrev zM:=@c_condB
abbrev zN:=@c_condN
abbrev zO:=@g_onT
abbrev zP:=@g_offT
abbrev zQ:=@g_offU
end Go.K
end
section
namespace Go.K
open Go
def goodB (a:Int):Bool:=decide (0≤a∧a≤2100000000000000)
theorem goodB_iff (a:Int):goodB a=true↔0≤a∧a≤2100000000000000:=by simp [goodB]
def addOk (a b:Int):Bool:=goodB a&&goodB b&&goodB (a+b)
abbrev W32:=BitVec 32
def u32 (x:W32):Value:=.int .u32 (x.toNat:Nat)
theorem wrap32 (m:Int):IntKind.u32.wrap m=m%4294967296:=rfl
theorem ofInt_nat (x:W32):BitVec.ofInt 32 (x.toNat:Nat)=x:=by
 apply BitVec.eq_of_toNat_eq
 simp [BitVec.toNat_ofInt]
theorem w32_bin {op:BinOp} {a b:W32} {c:W32} (h:intBin op .u32 (a.toNat:Nat) (b.toNat:Nat)=some (.int .u32 (c.toNat:Nat))) (hs:isShift op=false):binVal op (u32 a) (u32 b)=some (u32 c):=by
 simp only [u32,binVal,hs,Bool.false_eq_true,if_false,if_true];exact h
theorem wrap_nat (c:W32):IntKind.u32.wrap (c.toNat:Nat)=(c.toNat:Nat):=by
 rw [wrap32];exact Int.emod_eq_of_lt (by omega) (by have:=c.isLt;omega)
theorem w32_add (a b:W32):binVal .add (u32 a) (u32 b)=some (u32 (a+b)):=w32_bin (by
 simp only [intBin,wrap32,BitVec.toNat_add]
 exact congrArg some (congrArg (Value.int .u32) (by omega))) rfl
theorem w32_and (a b:W32):binVal .and (u32 a) (u32 b)=some (u32 (a&&& b)):=w32_bin (by
 simp only [intBin,IntKind.bits];rw [ofInt_nat,ofInt_nat]
 exact congrArg some (congrArg (Value.int .u32) (wrap_nat (a&&& b)))) rfl
theorem w32_or (a b:W32):binVal .or (u32 a) (u32 b)=some (u32 (a|||b)):=w32_bin (by
 simp only [intBin,IntKind.bits];rw [ofInt_nat,ofInt_nat]
 exact congrArg some (congrArg (Value.int .u32) (wrap_nat (a|||b)))) rfl
theorem w32_xor (a b:W32):binVal .xor (u32 a) (u32 b)=some (u32 (a^^^b)):=w32_bin (by
 simp only [intBin,IntKind.bits];rw [ofInt_nat,ofInt_nat]
 exact congrArg some (congrArg (Value.int .u32) (wrap_nat (a^^^b)))) rfl
theorem w32_shr (a:W32) (k:IntKind) (n:Nat) (h:n<32):binVal .shr (u32 a) (.int k (n:Nat))=some (u32 (a>>>n)):=by
 simp only [u32,binVal,isShift,if_true]
 rw [if_neg (by omega)]
 have e:min ((n:Int).toNat) IntKind.u32.bits=n:=by simp [IntKind.bits];omega
 simp only [e,BitVec.toNat_ushiftRight,Nat.shiftRight_eq_div_pow]
 congr 2
 rw [Int.fdiv_eq_ediv_of_nonneg _ (by exact_mod_cast Nat.zero_le _)]
 norm_cast
theorem w32_shl (a:W32) (k:IntKind) (n:Nat) (h:n<32):binVal .shl (u32 a) (.int k (n:Nat))=some (u32 (a<<<n)):=by
 simp only [u32,binVal,isShift,if_true]
 rw [if_neg (by omega)]
 have e:min ((n:Int).toNat) IntKind.u32.bits=n:=by simp [IntKind.bits];omega
 simp only [e,BitVec.toNat_shiftLeft,Nat.shiftLeft_eq,wrap32]
 congr 2
def rot (x:W32) (n:Nat):W32:=x>>>n|||x<<<(32 - n)
theorem neg_and (n:Nat) (h0:0<n) (h:n<32):binVal .and (.int .u64 (IntKind.u64.wrap (-(n:Int)))) (.int .u64 31)=some (.int .u64 ((32 - n:Nat):Int)):=by
 have key:∀n:Nat,n<32→0<n→IntKind.u64.wrap (BitVec.ofInt 64 (IntKind.u64.wrap (-(n:Int)))&&& BitVec.ofInt 64 31).toNat=((32 - n:Nat):Int):=by decide+kernel
 simp only [binVal,isShift,Bool.false_eq_true,if_false,if_true,intBin,IntKind.bits]
 exact congrArg some (congrArg (Value.int .u64) (key n h h0))
def qGood:List Value→Option Value
 | [.int .i64 a]=>some (.bool (goodB a))
 |_=>none
def qFrom (m:Int):List Value→Option Value
 | [.int .i64 a,.int .i64 b]=>some (.bool (decide (m≤a∧a≤b)))
 |_=>none
def qFrom0:=qFrom 0
def qFrom1:=qFrom 1
def qRot (k:IntKind):List Value→Option Value
 | [.int .u32 a,.int k' n]=>if k'=k∧0≤a∧a<4294967296∧0<n∧n<32 then some (u32 (rot (BitVec.ofInt 32 a) n.toNat)) else none
 |_=>none
def qRotI:=qRot .i64
def qRotU:=qRot .u64
theorem qRot_eq (x:W32) (k:IntKind) (n:Nat) (h0:0<n) (h:n<32):qRot k [u32 x,.int k (n:Nat)]=some (u32 (rot x n)):=by
 have:=x.isLt
 simp only [qRot,u32]
 rw [if_pos (by simp;omega),ofInt_nat];rfl
theorem qG (a:Int):qGood [.int .i64 a]=some (.bool (goodB a)):=rfl
theorem qF (m a b:Int):qFrom m [.int .i64 a,.int .i64 b]=some (.bool (decide (m≤a∧a≤b))):=rfl
attribute [irreducible] qGood qFrom qRot
end Go.K
end
section
namespace Go.K
open Go
structure Pt where
 s:ByteArray
 i:Int
deriving DecidableEq
structure Cn where
 v:Int
 s:ByteArray
 h:Int
deriving DecidableEq
instance:Inhabited Pt:=⟨⟨⟨#[]⟩,0⟩⟩
instance:Inhabited Cn:=⟨⟨0,⟨#[]⟩,0⟩⟩
def Pt.cs (p:Pt):List Value:= [.string p.s,.int .u32 p.i]
def Pt.val (p:Pt):Value:=.agg #[.string p.s,.int .u32 p.i]
def Cn.cs (c:Cn):List Value:= [.int .i64 c.v,.string c.s,.int .i64 c.h]
def Cn.val (c:Cn):Value:=.agg #[.int .i64 c.v,.string c.s,.int .i64 c.h]
def formedB (p:Pt) (c:Cn):Bool:=decide (p.s.size=32)&&decide (0≤c.h)&&decide (c.h≤1000000)&&goodB c.v
theorem bl_irrefl:∀a:List UInt8,Op.bytesLess a a=false
 | []=>rfl
 |a::l=>by simp [Op.bytesLess,bl_irrefl l]
theorem bl_trans:∀a b c:List UInt8,Op.bytesLess a b=true→Op.bytesLess b c=true→Op.bytesLess a c=true
 |_, [],_,h,_=>by cases ‹List UInt8›<;>simp [Op.bytesLess] at h
 |_,_::_, [],_,h=>by simp [Op.bytesLess] at h
 | [],_::_,_::_,_,_=>by simp [Op.bytesLess]
 |a::x,b::y,c::z,h,h'=>by
  simp only [Op.bytesLess,Bool.or_eq_true,decide_eq_true_eq,Bool.and_eq_true,beq_iff_eq] at h h' ⊢
  rcases h with h|⟨rfl,h⟩
  ·rcases h' with h'|⟨rfl,h'⟩
   ·exact .inl (UInt8.lt_trans h h')
   ·exact .inl h
  ·rcases h' with h'|⟨rfl,h'⟩
   ·exact .inl h'
   ·exact .inr ⟨rfl,bl_trans x y z h h'⟩
theorem bl_tri:∀a b:List UInt8,Op.bytesLess a b=false→Op.bytesLess b a=false→a=b
 | [], [],_,_=>rfl
 | [],_::_,h,_=>by simp [Op.bytesLess] at h
 |_::_, [],_,h=>by simp [Op.bytesLess] at h
 |a::x,b::y,h,h'=>by
  simp only [Op.bytesLess,Bool.or_eq_false_iff,decide_eq_false_iff_not,Bool.and_eq_false_iff,beq_eq_false_iff_ne] at h h'
  have e:a=b:=by
   have h1:=h.1;have h2:=h'.1
   rw [UInt8.lt_iff_toNat_lt] at h1 h2
   exact UInt8.toNat_inj.1 (by omega)
  subst e
  rcases h.2 with h1|h1
  ·exact absurd rfl h1
  rcases h'.2 with h2|h2
  ·exact absurd rfl h2
  rw [bl_tri x y h1 h2]
theorem data_toList (a:ByteArray):a.data.toList=a.toList:=(Lib.toList_data a).symm
theorem toList_inj {a b:ByteArray} (h:a.toList=b.toList):a=b:=by
 rw [←data_toList,←data_toList] at h
 exact ByteArray.ext (Array.toList_inj.1 h)
def ptLt (p q:Pt):Bool:=if p.s=q.s then decide (p.i<q.i) else Op.bytesLess p.s.toList q.s.toList
theorem ptLt_irrefl (p:Pt):ptLt p p=false:=by simp [ptLt]
theorem ptLt_trans {p q r:Pt} (h:ptLt p q=true) (h':ptLt q r=true):ptLt p r=true:=by
 unfold ptLt at*
 by_cases h1:p.s=q.s
 ·rw [if_pos h1] at h
  by_cases h2:q.s=r.s
  ·rw [if_pos h2] at h'
   rw [if_pos (h1.trans h2)]
   simp at h h' ⊢;omega
  ·rw [if_neg h2] at h'
   rw [if_neg (by rw [h1];exact h2),h1];exact h'
 ·rw [if_neg h1] at h
  by_cases h2:q.s=r.s
  ·rw [if_neg (by rw [←h2];exact h1),←h2];exact h
  ·rw [if_neg h2] at h'
   have h3:=bl_trans _ _ _ h h'
   by_cases h4:p.s=r.s
   ·rw [h4,bl_irrefl] at h3;cases h3
   ·rw [if_neg h4];exact h3
theorem ptLt_tri {p q:Pt} (h:ptLt p q=false) (h':ptLt q p=false):p=q:=by
 unfold ptLt at*
 by_cases h1:p.s=q.s
 ·rw [if_pos h1] at h;rw [if_pos h1.symm] at h'
  simp at h h'
  cases p;cases q;simp only [Pt.mk.injEq] at*;exact ⟨h1,by omega⟩
 ·rw [if_neg h1] at h;rw [if_neg (fun e=>h1 e.symm)] at h'
  exact absurd (toList_inj (bl_tri _ _ h h')) h1
end Go.K
end
section
namespace Go.K
open Go
abbrev En:=Pt × Cn
def entE:Enc En:=⟨fun e=>e.1.cs++e.2.cs,5,fun _=>rfl,by decide,by
 intro x v hv
 simp [Pt.cs,Cn.cs] at hv
 rcases hv with rfl|rfl|rfl|rfl|rfl<;>rfl⟩
def En.val (e:En):Value:=.agg #[.string e.1.s,.int .u32 e.1.i,.int .i64 e.2.v,.string e.2.s,.int .i64 e.2.h]
def ptK:KEnc Pt:=⟨Pt.val,true, [.s,.i],by
 intro a b
 cases a;cases b
 simp [Pt.val,keyEq,cellsEq,cellEq,Pt.mk.injEq]
 ,fun a=>rfl⟩
def tot (m:List En):Int:=(m.map (·.2.v)).sum
@[simp] theorem tot_nil:tot []=0:=rfl
@[simp] theorem tot_cons (e:En) (m:List En):tot (e::m)=e.2.v+tot m:=by simp [tot]
@[simp] theorem tot_append (l m:List En):tot (l++m)=tot l+tot m:=by simp [tot]
theorem tot_perm {l m:List En} (h:l.Perm m):tot l=tot m:=by
 induction h with
 |nil=>rfl
 |cons x _ ih=>simp [ih]
 |swap x y l=>simp;omega
 |trans _ _ h1 h2=>exact h1.trans h2
def Mon (m:List En):Prop:=(∀e∈m,0≤e.2.v)∧tot m≤2100000000000000
theorem Mon.nil:Mon []:=⟨by simp,by simp⟩
theorem Mon.pos:∀{m:List En},(∀e∈m,0≤e.2.v)→0≤tot m
 | [],_=>by simp
 |e::m,h=>by
  have h1:=h e (by simp)
  have h2:=Mon.pos (m:=m) (fun x hx=>h x (by simp [hx]))
  simp;omega
theorem Mon.le:∀{m:List En},(∀e∈m,0≤e.2.v)→∀e∈m,e.2.v≤tot m
 |e'::m,h,e,he=>by
  have h2:=Mon.pos (m:=m) (fun x hx=>h x (by simp [hx]))
  simp only [List.mem_cons] at he
  rcases he with rfl|he
  ·simp;omega
  ·have:=Mon.le (m:=m) (fun x hx=>h x (by simp [hx])) e he
   have h1:=h e' (by simp)
   simp;omega
theorem Mon.good {m:List En} (h:Mon m):goodB (tot m)=true:=(goodB_iff _).2 ⟨Mon.pos h.1,h.2⟩
theorem aget_mem {κ β:Type} [DecidableEq κ] {m:List (κ × β)} {k:κ} {v:β} (h:aget m k=some v):(k,v)∈m:=by
 unfold aget at h
 obtain ⟨p,hp,rfl⟩:=Option.map_eq_some_iff.1 h
 have h1:=List.mem_of_find?_eq_some hp
 have h2:=List.find?_some hp
 simp only [decide_eq_true_eq] at h2
 subst h2;exact h1
def SetE (t:TypeId) (w:World) (b mb:Nat) (m:List En):Prop:=
 At w b (.cells [Value.map (some mb),.int .i64 (tot m)].toArray t (0,0))∧MapE ptK Cn.val w mb m∧Mon m
section
variable {t:TypeId} {w w':World} {b mb:Nat} {m:List En}
theorem SetE.at_ (h:SetE t w b mb m):At w b (.cells [Value.map (some mb),.int .i64 (tot m)].toArray t (0,0)):=h.1
theorem SetE.row (h:SetE t w b mb m):Row w ⟨b,0,none⟩ [Value.map (some mb),.int .i64 (tot m)]:=Row.of_at h.1
theorem SetE.ne (h:SetE t w b mb m):b≠mb:=by
 obtain ⟨h1,⟨es,clock,h2,_⟩,_⟩:=h
 exact h1.ne h2 (by simp)
theorem SetE.chg {l:List Nat} (hc:Chg l w w') (h:SetE t w b mb m) (h1:b∉l) (h2:mb∉l):SetE t w' b mb m:=⟨h.1.chg hc h1,h.2.1.chg hc h2,h.2.2⟩
theorem SetE.ext (hc:Ext w w') (h:SetE t w b mb m):SetE t w' b mb m:=h.chg hc (by simp) (by simp)
end
def putCode (m:List En) (p:Pt) (c:Cn):Int:=if formedB p c then (if (aget m p).isSome then 7 else if goodB (tot m+c.v) then 0 else 3) else 2
def putMap (m:List En) (p:Pt) (c:Cn):List En:=if putCode m p c=0 then m++ [(p,c)] else m
def cn0:Cn:=⟨0,⟨#[]⟩,0⟩
def takeCoin (m:List En) (p:Pt):Cn:=(aget m p).getD cn0
theorem adel_cons {κ β:Type} [DecidableEq κ] (e:κ × β) (m:List (κ × β)) (k:κ):adel (e::m) k=if e.1=k then adel m k else e::adel m k:=by
 unfold adel;rw [List.filter_cons];by_cases h:e.1=k<;>simp [h]
theorem adel_out {κ β:Type} [DecidableEq κ] {m:List (κ × β)} {k:κ} (h:k∉m.map (·.1)):adel m k=m:=by
 unfold adel
 rw [List.filter_eq_self]
 intro a ha
 simp only [decide_eq_true_eq]
 rintro rfl
 exact h (List.mem_map_of_mem ha)
theorem aget_cons {κ β:Type} [DecidableEq κ] (e:κ × β) (m:List (κ × β)) (k:κ):aget (e::m) k=if e.1=k then some e.2 else aget m k:=by
 unfold aget;rw [List.find?_cons];by_cases h:e.1=k<;>simp [h]
theorem tot_del:∀{m:List En} {p:Pt} {c:Cn},(m.map (·.1)).Nodup→aget m p=some c→tot (adel m p)=tot m - c.v
 |(q,d)::m,p,c,hn,h=>by
  simp only [List.map_cons,List.nodup_cons] at hn
  rw [aget_cons] at h
  rw [adel_cons]
  by_cases e:q=p
  ·subst e
   simp at h
   subst h
   rw [if_pos rfl,adel_out hn.1];simp;omega
  ·rw [if_neg e] at h ⊢
   have ih:=tot_del hn.2 h
   simp [ih];omega
theorem Mon.del {m:List En} (h:Mon m) (p:Pt):Mon (adel m p):=by
 have hs:∀e∈adel m p,0≤e.2.v:=fun e he=>h.1 e (List.mem_filter.1 he).1
 refine ⟨hs,?_⟩
 have key:∀l:List En,(∀e∈l,0≤e.2.v)→tot (adel l p)≤tot l:=by
  intro l
  induction l with
  |nil=>intro _;simp [adel]
  |cons e l ih=>
   intro hl
   have h1:=hl e (by simp)
   have h2:=ih (fun x hx=>hl x (by simp [hx]))
   rw [adel_cons]
   split<;>simp<;>omega
 have:=key m h.1;have:=h.2;omega
theorem Mon.put {m:List En} (h:Mon m) {p:Pt} {c:Cn} (hc:putCode m p c=0):Mon (m++ [(p,c)]):=by
 unfold putCode at hc
 split at hc
 ·rename_i hf
  split at hc
  ·cases hc
  ·split at hc
   ·rename_i hg
    have h1:=(goodB_iff _).1 hg
    have h2:goodB c.v=true:=by simp only [formedB,Bool.and_eq_true] at hf;exact hf.2
    have h3:=(goodB_iff _).1 h2
    exact ⟨fun e he=>by
     rcases List.mem_append.1 he with he|he
     ·exact h.1 e he
     ·simp at he;subst he;exact h3.1,by simp;omega⟩
   ·cases hc
 ·cases hc
theorem aset_none {κ β:Type} [DecidableEq κ] {m:List (κ × β)} {k:κ} {v:β} (h:aget m k=none):aset m k v=m++ [(k,v)]:=by
 apply aset_absent
 unfold aget at h
 simp only [Option.map_eq_none_iff,List.find?_eq_none] at h
 rw [List.findIdx?_eq_none_iff]
 intro x hx
 simpa using h x hx
theorem putCode2 {m:List En} {p:Pt} {c:Cn} (h:formedB p c=false):putCode m p c=2:=by rw [putCode,h];rfl
theorem putCode7 {m:List En} {p:Pt} {c d:Cn} (h:formedB p c=true) (hd:aget m p=some d):putCode m p c=7:=by rw [putCode,h,hd];rfl
theorem putCode0 {m:List En} {p:Pt} {c:Cn} (h:formedB p c=true) (hd:aget m p=none) (hm:Mon m):putCode m p c=if addOk (tot m) c.v then 0 else 3:=by
 have h2:goodB c.v=true:=by simp only [formedB,Bool.and_eq_true] at h;exact h.2
 rw [putCode,h,hd];simp only [addOk,hm.good,h2,Bool.true_and];rfl
end Go.K
end
section
namespace Go.K
open Go
def leL (n:Nat):Nat→List UInt8
 |0=> []
 |k+1=>leL n k++ [UInt8.ofNat (n / 256^k)]
theorem leL_length (n:Nat):∀k,(leL n k).length=k
 |0=>rfl
 |k+1=>by simp [leL,leL_length n k]
def str (l:List UInt8):ByteArray:=⟨l.toArray⟩
theorem str_size (l:List UInt8):(str l).size=l.length:=by simp [str,ByteArray.size]
theorem str_append (l m:List UInt8):str l++str m=str (l++m):=by
 apply ByteArray.ext;simp [str,ByteArray.data_append]
theorem str_nil:str []=⟨#[]⟩:=rfl
def leS (n k:Nat):ByteArray:=str (leL n k)
theorem leS_zero (n:Nat):leS n 0=⟨#[]⟩:=rfl
theorem tm (m n:Nat):Int.tmod (m:Int) (n:Int)=((m%n:Nat):Int):=by rw [Int.tmod_eq_emod_of_nonneg (by omega)];rfl
theorem td (m n:Nat):Int.tdiv (m:Int) (n:Int)=((m / n:Nat):Int):=by rw [Int.tdiv_eq_ediv_of_nonneg (by omega)];rfl
theorem leS_succ (n i:Nat):leS n (i+1)=leS n i++str [UInt8.ofNat (n / 256^i)]:=by rw [leS,leS,str_append];rfl
theorem leS_fd:leS 253 1=⟨#[253]⟩:=rfl
theorem leS_fe:leS 254 1=⟨#[254]⟩:=rfl
theorem leS_ff:leS 255 1=⟨#[255]⟩:=rfl
theorem leS_size (n k:Nat):(leS n k).size=k:=by rw [leS,str_size,leL_length]
def vnS (n:Nat):ByteArray:=
 if n<253 then leS n 1 else if n<65536 then leS 253 1++leS n 2 else if n<4294967296 then leS 254 1++leS n 4 else leS 255 1++leS n 8
theorem vnS_size (n:Nat):(vnS n).size≤9:=by
 unfold vnS
 repeat' split
 all_goals simp [ByteArray.size_append,leS_size]
def u8E:Enc UInt8:=⟨fun b=> [.int .u8 (b.toNat:Nat)],1,fun _=>rfl,by decide,by intro x v hv;simp at hv;subst hv;rfl⟩
def strE:Enc ByteArray:=⟨fun s=> [.string s],1,fun _=>rfl,by decide,by intro x v hv;simp at hv;subst hv;rfl⟩
def intE:Enc Int:=⟨fun n=> [.int .i64 n],1,fun _=>rfl,by decide,by intro x v hv;simp at hv;subst hv;rfl⟩
theorem u8_flat (l:List UInt8):u8E.flat l=l.map fun b:UInt8=>Value.int .u8 b.toNat:=by
 induction l with
 |nil=>rfl
 |cons x l ih=>simp only [Enc.flat,List.flatMap_cons] at ih ⊢;rw [ih];rfl
theorem u8_wrap (n:Nat):IntKind.u8.wrap (n:Int)=((UInt8.ofNat n).toNat:Int):=by
 have h:IntKind.u8.wrap (n:Int)=(n:Int)%256:=rfl
 rw [h];simp
theorem u64_wrap {n:Int} (h0:0≤n) (h:n<18446744073709551616):IntKind.u64.wrap n=n:=Int.emod_eq_of_lt h0 h
variable {P:Program} {d:Option Tmp} {r:KR} {K:Env→World→Prop} {ρ:Env} {w:World}
theorem st_strU {x:Operand} {v:Value} {l:List UInt8} (hx:ev ρ x=v) (h:SlE u8E w v l) (k:regK P r K (put ρ d (.string (str l))) w):regK P (.cons ⟨d,.strOf x,none⟩ r) K ρ w:=by
 obtain ⟨base,cap,rfl⟩:=h.form
 have hc:=h.cells
 rw [u8_flat] at hc
 exact st_strOf hx rfl hc k
theorem st_str1 {x:Operand} {b:Nat} {t:TypeId} {n:Nat} (hx:ev ρ x=.slice (some ⟨b,0,none⟩) 1 1) (ha:At w b (.cells [Value.int .u8 (IntKind.u8.wrap (n:Int))].toArray t (0,0))) (k:regK P r K (put ρ d (.string (str [UInt8.ofNat n]))) w):regK P (.cons ⟨d,.strOf x,none⟩ r) K ρ w:=by
 rw [u8_wrap] at ha
 exact st_strU (l:= [UInt8.ofNat n]) hx (SlE.new (E:=u8E) ha rfl (Nat.le_refl _)) k
theorem st_catS {x y:Operand} {a b:ByteArray} (hx:ev ρ x=.string a) (hy:ev ρ y=.string b) (h:a.size+b.size≤9223372036854775807) (k:regK P r K (put ρ d (.string (a++b))) w):regK P (.cons ⟨d,.bin .add x y,none⟩ r) K ρ w:=st_cat hx hy h k
end Go.K
namespace Go.K
open Go
section
variable {α:Type}
def idxOf (p:α→Bool) (l:List α):Int:=match l.findIdx? p with
 |some i=>i
 |none=> -1
theorem idxOf_hit {p:α→Bool} {l:List α} {i:Nat} (h:i<l.length) (hp:p l[i]=true) (hn:∀j (_:j<i),p l[j]=false):idxOf p l=i:=by
 have:l.findIdx? p=some i:=List.findIdx?_eq_some_iff_getElem.2 ⟨h,hp,fun j hj=>by simpa using hn j hj⟩
 rw [idxOf,this]
theorem idxOf_miss {p:α→Bool} {l:List α} (hn:∀j (h:j<l.length),p l[j]=false):idxOf p l= -1:=by
 have:l.findIdx? p=none:=List.findIdx?_eq_none_iff.2 fun x hx=>by
  obtain ⟨j,hj,rfl⟩:=List.getElem_of_mem hx
  exact hn j hj
 rw [idxOf,this]
theorem idxOf_any {p:α→Bool} {l:List α}:decide (idxOf p l≥0)=l.any p:=by
 unfold idxOf
 cases h:l.findIdx? p with
 |none=>
  have:=List.findIdx?_eq_none_iff.1 h
  symm;simpa using this
 |some i=>
  obtain ⟨h1,h2,_⟩:=List.findIdx?_eq_some_iff_getElem.1 h
  have:l.any p=true:=List.any_eq_true.2 ⟨_,List.getElem_mem h1,h2⟩
  rw [this];simp
end
def sumOk:Int→List Int→Option Int
 |s, []=>some s
 |s,a::l=>if goodB a&&goodB (s+a) then sumOk (s+a) l else none
def sumV (l:List Int):Int:=(sumOk 0 l).getD 0
def sumE (l:List Int):Int:=if (sumOk 0 l).isSome then 0 else 3
theorem sumOk_append (l m:List Int):∀s,sumOk s (l++m)=(sumOk s l).bind fun s'=>sumOk s' m:=by
 induction l with
 |nil=>intro s;rfl
 |cons a l ih=>intro s;simp only [List.cons_append,sumOk];split<;>simp [ih]
theorem sumOk_good:∀(l:List Int) (s t:Int),goodB s=true→sumOk s l=some t→goodB t=true
 | [],s,t,hs,h=>by simp [sumOk] at h;subst h;exact hs
 |a::l,s,t,hs,h=>by
  simp only [sumOk] at h
  split at h
  ·rename_i hc
   simp only [Bool.and_eq_true] at hc
   exact sumOk_good l _ t hc.2 h
  ·cases h
theorem sumOk_take {l:List Int} {i:Nat} (h:i<l.length):sumOk 0 (l.take (i+1))=(sumOk 0 (l.take i)).bind fun s=>if goodB l[i]&&goodB (s+l[i]) then some (s+l[i]) else none:=by
 rw [List.take_succ_eq_append_getElem h,sumOk_append];congr 1
theorem sumOk_none {l:List Int} {i:Nat} (h:sumOk 0 (l.take i)=none):sumOk 0 l=none:=by
 rw [←List.take_append_drop i l,sumOk_append,h];rfl
end Go.K
end
section
namespace Go.K
open Go
structure TIn where
 p:Pt
 q:Int
 wit:List ByteArray
deriving DecidableEq
structure TOut where
 v:Int
 s:ByteArray
deriving DecidableEq
structure Tx where
 ver:Int
 ins:List TIn
 outs:List TOut
 lock:Int
deriving DecidableEq
structure Ent where
 tx:Tx
 id:ByteArray
 fee:Int
 size:Int
deriving DecidableEq
instance:Inhabited TIn:=⟨⟨default,0, []⟩⟩
instance:Inhabited TOut:=⟨⟨0,⟨#[]⟩⟩⟩
instance:Inhabited Tx:=⟨⟨0, [], [],0⟩⟩
instance:Inhabited Ent:=⟨⟨default,⟨#[]⟩,0,0⟩⟩
def is32 (n:Int):Prop:=0≤n∧n<4294967296
def is64 (n:Int):Prop:= -9223372036854775808≤n∧n<9223372036854775808
def strR:R ByteArray:=R.flat strE false
def inCs (x:TIn) (wv:Value):List Value:= [.string x.p.s,.int .u32 x.p.i,.int .u32 x.q,wv]
def inR:R TIn where
 k:=4
 pos:=by decide
 ag:=true
 rel:=fun M w cs x=>∃wv,cs=inCs x wv∧SlR strR M w wv x.wit∧is32 x.p.i∧is32 x.q
 len:=fun ⟨_,h,_⟩=>by rw [h];rfl
 one:=fun ⟨wv,h,hs,_⟩ v hv=>by
  obtain ⟨b,c,rfl⟩:=hs.form
  subst h;simp [inCs] at hv;rcases hv with rfl|rfl|rfl|rfl<;>rfl
 step:=fun ⟨wv,h,hs,h2⟩ c hL hM=>⟨wv,h,hs.step c hL hM,h2⟩
def outCs (x:TOut):List Value:= [.int .i64 x.v,.string x.s]
def outR:R TOut where
 k:=2
 pos:=by decide
 ag:=true
 rel:=fun _ _ cs x=>cs=outCs x∧is64 x.v
 len:=fun ⟨h,_⟩=>by rw [h];rfl
 one:=fun ⟨h,_⟩ v hv=>by subst h;simp [outCs] at hv;rcases hv with rfl|rfl<;>rfl
 step:=fun h _ _ _=>h
def txCs (x:Tx) (iv ov:Value):List Value:= [.int .u32 x.ver,iv,ov,.int .u32 x.lock]
def txR:R Tx where
 k:=4
 pos:=by decide
 ag:=true
 rel:=fun M w cs x=>∃iv ov,cs=txCs x iv ov∧SlR inR M w iv x.ins∧SlR outR M w ov x.outs∧is32 x.ver∧is32 x.lock
 len:=fun ⟨_,_,h,_⟩=>by rw [h];rfl
 one:=fun ⟨iv,ov,h,hi,ho,_⟩ v hv=>by
  obtain ⟨b,c,rfl⟩:=hi.form
  obtain ⟨b',c',rfl⟩:=ho.form
  subst h;simp [txCs] at hv;rcases hv with rfl|rfl|rfl|rfl<;>rfl
 step:=fun ⟨iv,ov,h,hi,ho,h2⟩ c hL hM=>⟨iv,ov,h,hi.step c hL hM,ho.step c hL hM,h2⟩
def entCs (x:Ent) (iv ov:Value):List Value:= [.int .u32 x.tx.ver,iv,ov,.int .u32 x.tx.lock,.string x.id,.int .i64 x.fee,.int .i64 x.size]
def entR:R Ent where
 k:=7
 pos:=by decide
 ag:=true
 rel:=fun M w cs x=>∃iv ov,cs=entCs x iv ov∧SlR inR M w iv x.tx.ins∧SlR outR M w ov x.tx.outs∧is32 x.tx.ver∧is32 x.tx.lock∧is64 x.fee∧is64 x.size
 len:=fun ⟨_,_,h,_⟩=>by rw [h];rfl
 one:=fun ⟨iv,ov,h,hi,ho,_⟩ v hv=>by
  obtain ⟨b,c,rfl⟩:=hi.form
  obtain ⟨b',c',rfl⟩:=ho.form
  subst h;simp [entCs] at hv;rcases hv with rfl|rfl|rfl|rfl|rfl|rfl|rfl<;>rfl
 step:=fun ⟨iv,ov,h,hi,ho,h2⟩ c hL hM=>⟨iv,ov,h,hi.step c hL hM,ho.step c hL hM,h2⟩
def zero32:ByteArray:=str (List.replicate 32 0)
def baseP:Pt:=⟨zero32,4294967295⟩
def isBase (p:Pt):Bool:=decide (p.s=baseP.s)&&decide (p.i=baseP.i)
def grantB (t:Tx):Bool:=decide (t.ins.length=1)&&isBase (t.ins.headD default).p
def countsB (t:Tx):Bool:=decide (1≤(t.ins.length:Int)∧(t.ins.length:Int)≤256)&&decide (1≤(t.outs.length:Int)∧(t.outs.length:Int)≤256)&&!(t.ins.any fun x=>decide ((x.wit.length:Int)>4))
def longOut (x:TOut):Bool:=decide ((x.s.size:Int)>40)
def longItem (s:ByteArray):Bool:=decide ((s.size:Int)>80)
def longIn (x:TIn):Bool:=x.wit.any longItem
def longB (t:Tx):Bool:=t.outs.any longOut||t.ins.any longIn
def badIn (t:Tx) (x:TIn):Bool:=!decide ((x.p.s.size:Int)=32)||(isBase x.p&&decide ((t.ins.length:Int)>1))
def formedT (t:Tx):Bool:=!(t.ins.any (badIn t))
def dupB:List Pt→Bool
 | []=>false
 |p::l=>l.contains p||dupB l
def points (t:Tx):List Pt:=t.ins.map (·.p)
def twiceB (t:Tx):Bool:=dupB (points t).reverse
def values (t:Tx):List Int:=t.outs.map (·.v)
def checkT (t:Tx):Int:=if !countsB t then 6 else if longB t then 20 else if !formedT t then 4 else if twiceB t then 7 else sumE (values t)
structure Tx.Sm (t:Tx):Prop where
 ins:t.ins.length≤1000
 outs:t.outs.length≤1000
 wit:∀x∈t.ins,x.wit.length≤1000
theorem any_idx {α:Type} {p:α→Bool} {l:List α}:decide (idxOf p l≥0)=l.any p:=idxOf_any
theorem dupB_append (l m:List Pt) (h:dupB m=true):dupB (l++m)=true:=by
 induction l with
 |nil=>exact h
 |cons p l ih=>simp only [List.cons_append,dupB,ih,Bool.or_true]
theorem dupB_take {l:List Pt} {i:Nat} (h:i<l.length):dupB (l.take (i+1)).reverse=((l.take i).contains l[i]||dupB (l.take i).reverse):=by
 rw [List.take_succ_eq_append_getElem h,List.reverse_append]
 simp only [List.reverse_cons,List.reverse_nil,List.nil_append,List.singleton_append,dupB]
 congr 1
 simp
theorem dupB_full {l:List Pt} {i:Nat} (h:dupB (l.take i).reverse=true):dupB l.reverse=true:=by
 conv=>lhs;rw [←List.take_append_drop i l,List.reverse_append]
 exact dupB_append _ _ h
end Go.K
end
section
namespace Go.K
open Go
theorem Ext.of_below {w w':World} (h:RowKit.Below w.heap.size w w'):Ext w w':=⟨h.os,h.tape,h.output,h.size,fun b hb _=>h.block b hb⟩
structure Wr (e:TypeId) (B b:Nat) (w w':World):Prop where
 low:RowKit.Below B w w'
 oth:Lib.OthersKept e (some b) w w'
theorem Wr.refl (e:TypeId) (B b:Nat) (w:World):Wr e B b w w:=⟨RowKit.Below.refl _ _,Lib.OthersKept.refl _ _ _⟩
theorem Wr.trans {e:TypeId} {B b:Nat} {w w1 w2:World} (h:Wr e B b w w1) (h':Wr e B b w1 w2):Wr e B b w w2:=⟨h.low.trans h'.low,h.oth.trans h'.oth⟩
theorem Wr.of_ext {e:TypeId} {B b:Nat} {w w':World} (h:Ext w w') (hB:B≤w.heap.size):Wr e B b w w':=
 ⟨⟨Chg.os h,Chg.tape h,Chg.output h,Chg.size h,fun k hk=>Chg.block h k (by omega) (by simp)⟩,fun k o hk _ _=>by
  have hlt:k<w.heap.size:=(Array.getElem?_eq_some_iff.1 hk).1
  exact (Chg.block h k hlt (by simp)).trans hk⟩
theorem Wr.size {e:TypeId} {B b:Nat} {w w':World} (h:Wr e B b w w'):w.heap.size≤w'.heap.size:=h.low.size
theorem Wr.ext {e:TypeId} {B b:Nat} {w0 w w':World} (h:Wr e B b w w') (x:Ext w0 w) (hB:w0.heap.size≤B):Ext w0 w':=
 ⟨h.low.os.trans (Chg.os x),h.low.tape.trans (Chg.tape x),h.low.output.trans (Chg.output x),Nat.le_trans (Chg.size x) h.low.size,fun k hk hn=>(h.low.block k (by omega)).trans (Chg.block x k hk hn)⟩
theorem At.wr {e t:TypeId} {B b k:Nat} {w w':World} {cs:Array Value} {f:Nat × Nat} (h:Wr e B b w w') (ha:At w k (.cells cs t f)) (hk:k≠b) (ht:t≠e):At w' k (.cells cs t f):=
 h.oth k _ ha (by simpa using hk) (by intro c fz hc;injection hc with _ h2 _;exact ht h2)
def Bld (T e:TypeId) (B b:Nat) (s:ByteArray) (w:World):Prop:=B≤w.heap.size∧Lib.IsBuilderF T e B b (Lib.byteCells s.data.toList) w
theorem Bld.new {T e:TypeId} {B b:Nat} {w:World} (hB:B≤b) (h:At w b (.cells [Value.pointer none,Value.slice none 0 0].toArray T (0,0))):Bld T e B b ⟨#[]⟩ w:=by
 refine ⟨by have:=h.lt;omega,.inl ⟨hB,_,h,World.ownsRowF_nil w B e 1,by simp [Value.ownBlock]⟩⟩
theorem Bld.ext {T e:TypeId} {B b:Nat} {s:ByteArray} {w w':World} (h:Bld T e B b s w) (x:Ext w w'):Bld T e B b s w':=by
 have key:∀p,Lib.BuilderAtF T e B b p (Lib.byteCells s.data.toList) w→Lib.BuilderAtF T e B b p (Lib.byteCells s.data.toList) w':=by
  rintro p ⟨hB,v,hb,ho,hn⟩
  refine ⟨hB,v,At.ext x hb,?_,hn⟩
  obtain ⟨h1,h2⟩:=ho
  refine ⟨h1,?_⟩
  rcases h2 with h2|⟨g,cap,cur,fz,hv,hg,hh,r⟩
  ·exact .inl h2
  ·exact .inr ⟨g,cap,cur,fz,hv,hg,At.ext x hh,r⟩
 refine ⟨Nat.le_trans h.1 x.size,?_⟩
 rcases h.2 with h|h
 ·exact .inl (key _ h)
 ·exact .inr (key _ h)
theorem Bld.lt {T e:TypeId} {B b:Nat} {s:ByteArray} {w:World} (h:Bld T e B b s w):b<w.heap.size:=by
 rcases h.2 with ⟨_,v,hb,_⟩|⟨_,v,hb,_⟩
 ·exact At.lt hb
 ·exact At.lt hb
theorem Bld.x {T e:TypeId} {B b:Nat} {s:ByteArray} {w w':World} (c:Ext w w') (h:Bld T e B b s w):Bld T e B b s w':=h.ext c
theorem byteCells_append (a b:ByteArray):Lib.byteCells a.data.toList++Lib.strCells b=Lib.byteCells (a++b).data.toList:=by
 simp [Lib.byteCells,Lib.strCells,ByteArray.data_append]
section
variable {κ β:Type} [DecidableEq κ] {E:KEnc κ} {fv:β→Value} {P:Program} {d:Option Tmp} {r:KR} {K:Env→World→Prop} {ρ:Env} {w:World}
theorem pend_map {b i clock:Nat} {es:Array MapEntry} {l:List (κ × β)} {k:κ} {v0:β} (h:At w b (.map es clock)) (hwf:Wf es clock) (hi:i<es.size) (hv:es[i].val=fv v0)
  (hall:∀v:β,(es.modify i fun e=>{e with val:=fv v}).toList.map (fun e=>(e.key,e.val))=(aset l k v).map (fun p=>(E.f p.1,fv p.2))) (hn:(l.map (·.1)).Nodup):MapE E fv w b (aset l k v0):=by
 refine ⟨es,clock,h,hwf,?_,aset_keys hn⟩
 rw [←hall v0]
 congr 2
 apply Array.ext
 ·simp
 ·intro j h1 h2
  rw [Array.getElem_modify]
  split
  ·rename_i e;subst e
   generalize es[i]=q at hv
   cases q;simp only at hv;simp [hv]
  ·rfl
theorem st_mapEntryZ {s:Bool} {ks:List CK} {z:Value} {m x:Operand} {b:Nat} {l:List (κ × β)} {k:κ} (z0:β) (hz:z=fv z0) (hm:ev ρ m=.map (some b)) (hx:ev ρ x=E.f k) (hM:MapE E fv w b l) (hs:s=E.s) (hks:ks=E.ks)
  (kk:∀(st:Nat) w',Chg [b] w w'→MapPend E fv w' b l k st→MapE E fv w' b (aset l k ((aget l k).getD z0))→regK P r K (put ρ d (.tuple #[fv ((aget l k).getD z0),.int .i64 (st:Int)])) w'):regK P (.cons ⟨d,.mapEntry s ks z m x,none⟩ r) K ρ w:=by
 subst hs hks hz
 obtain ⟨es,clock,hat,hwf,heq,hn⟩:=hM
 have hf:=findK_enc (E:=E) (fv:=fv) k es.toList l 0 heq
 have hlen:es.size=l.length:=by have:=congrArg List.length heq;simpa using this
 refine st_wp ⟨b,es,clock,_,hm,hat,by rw [hx];exact E.ok k,by rw [hx];exact hf,?_⟩
 cases h:(l.findIdx? fun p=>decide (p.1=k)) with
 |none=>
  have hg:aget l k=none:=by rw [aget_idx,h];rfl
  rw [hg] at kk
  simp only [Option.bind_none]
  rw [hx]
  have P1:=hat.setObj (o':=.map (es.push {key:=E.f k,val:=fv z0,born:=clock}) (clock+1))
  have P2:=wf_push hwf (E.f k) (fv z0)
  have P3:∀v:β,((es.push {key:=E.f k,val:=fv z0,born:=clock}).modify es.size fun e=>{e with val:=fv v}).toList.map (fun e=>(e.key,e.val))=(aset l k v).map (fun p=>(E.f p.1,fv p.2)):=by
   intro v
   rw [aset_absent h,List.map_append,←heq]
   apply List.ext_getElem
   ·simp
   ·intro i h1 h2
    have h3:i<es.size+1:=by simpa using h1
    simp only [List.getElem_map,Array.getElem_toList,Array.getElem_modify,List.getElem_append,List.length_map,Array.length_toList]
    by_cases hi:i<es.size
    ·rw [dif_pos hi]
     have hne:¬(es.size=i):=by omega
     simp [hne,Array.getElem_push_lt hi]
    ·have:i=es.size:=by omega
     subst this
     simp
  exact kk clock _ (Chg.setObj _ _ _) ⟨_,_,es.size,P1,P2,⟨by simp,by simp⟩,P3,hn⟩ (pend_map P1 P2 (by simp) (by simp) P3 hn)
 |some j=>
  obtain ⟨hj,hk,_⟩:=List.findIdx?_eq_some_iff_getElem.1 h
  have hjs:j<es.size:=by omega
  have hg:aget l k=some l[j].2:=by rw [aget_idx,h];simp [List.getElem?_eq_getElem hj]
  rw [hg] at kk
  simp only [Option.bind_some,List.getElem?_eq_getElem hj,Option.map_some,Nat.zero_add]
  rw [hx]
  have e1:(((es[j]?).map (·.born)).getD 0)=es[j].born:=by simp [Array.getElem?_eq_getElem hjs]
  rw [e1]
  have P1:=hat.setObj (o':=.map (es.modify j fun e=>{e with key:=E.f k}) clock)
  have P2:=wf_modify hwf j (fun e=>{e with key:=E.f k}) (fun _=>rfl)
  have h6:(es.toList.map (fun e=>(e.key,e.val)))[j]'(by simpa using hjs)=(l.map (fun p=>(E.f p.1,fv p.2)))[j]'(by simpa using hj):=by simp only [heq]
  simp only [List.getElem_map,Array.getElem_toList,Prod.mk.injEq] at h6
  have P3:∀v:β,((es.modify j fun e=>{e with key:=E.f k}).modify j fun e=>{e with val:=fv v}).toList.map (fun e=>(e.key,e.val))=(aset l k v).map (fun p=>(E.f p.1,fv p.2)):=by
   intro v
   rw [aset_present h]
   apply List.ext_getElem
   ·simpa using hlen
   ·intro i h1 h2
    have h3:i<es.toList.length:=by simpa using h1
    have h4:i<l.length:=by simpa using h2
    have h5:(es.toList.map (fun e=>(e.key,e.val)))[i]'(by simpa using h3)=(l.map (fun p=>(E.f p.1,fv p.2)))[i]'(by simpa using h4):=by simp only [heq]
    simp only [List.getElem_map] at h5
    simp only [List.getElem_map,Array.getElem_toList,Array.getElem_modify,List.getElem_set] at h5 ⊢
    split
    ·rfl
    ·exact h5
  exact kk es[j].born _ (Chg.setObj _ _ _) ⟨_,_,j,P1,P2,⟨by simpa using hjs,by rw [Array.getElem_modify,if_pos rfl]⟩,P3,hn⟩ (pend_map P1 P2 (by simpa using hjs) (by rw [Array.getElem_modify,if_pos rfl];exact h6.2) P3 hn)
theorem aget_set (l:List (κ × β)) (k:κ) (v:β) (k':κ):aget (aset l k v) k'=if k=k' then some v else aget l k':=by
 induction l with
 |nil=>unfold aset aget;by_cases h:k=k'<;>simp [h]
 |cons p l ih=>
  unfold aset
  by_cases h:p.1=k
  ·rw [if_pos h]
   have e:∀q:κ × β,aget (q::l) k'=if q.1=k' then some q.2 else aget l k':=by intro q;unfold aget;rw [List.find?_cons];by_cases h:q.1=k'<;>simp [h]
   rw [e,e]
   by_cases h2:k=k'
   ·simp [h2]
   ·rw [if_neg h2,if_neg h2,if_neg (by rw [h];exact h2)]
  ·rw [if_neg h]
   have e:∀(q:κ × β) (m:List (κ × β)),aget (q::m) k'=if q.1=k' then some q.2 else aget m k':=by intro q m;unfold aget;rw [List.find?_cons];by_cases h:q.1=k'<;>simp [h]
   rw [e,e,ih]
   by_cases h2:p.1=k'
   ·rw [if_pos h2,if_pos h2,if_neg (by rw [←h2];exact fun e=>h e.symm)]
   ·rw [if_neg h2,if_neg h2]
end
end Go.K
end
