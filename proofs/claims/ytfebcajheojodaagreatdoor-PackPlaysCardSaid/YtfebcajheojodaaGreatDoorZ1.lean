/- The engine, part 1: operations with their types resolved, an -/
import Derived.WalkKit
import Derived.Orders
import Derived.Still
set_option linter.unusedVariables false
set_option linter.unusedSimpArgs false
namespace Go
theorem nLt{a b c:Nat}(h:a<b)(k:b≤c):a<c:=Nat.lt_of_lt_of_le h k
theorem nTr{a b c:Nat}(h:a≤b)(k:b≤c):a≤c:=Nat.le_trans h k
theorem dTr{p:Prop}[i:Decidable p](h:p):decide p=true:=decide_eq_true h
theorem dFa{p:Prop}[i:Decidable p](h:¬p):decide p=false:=decide_eq_false h
theorem tLe{α:Type _}{l:List α}{i:Nat}(h:l.length≤i):l.take i=l:=List.take_of_length_le h
theorem gMe{α:Type _}{l:List α}{n:Nat}(h:n<l.length):l[n]∈l:=List.getElem_mem h
end Go
namespace Go.K
section
open Go
abbrev Env:=Nat→Value
def upd (ρ:Env) (d:Nat) (v:Value):Env:=fun t=>if t=d then v else ρ t
def ev (ρ:Env):Operand→Value
 |.tmp t=>ρ t
 |.const v=>v
 |.global g=>.pointer (some ⟨g,0,none⟩)
 |.func f=>.func (.func f) #[] #[]
def put (ρ:Env):Option Tmp→Value→Env
 |some d,v=>upd ρ d v
 |none,_=>ρ
theorem upd_same (ρ:Env) (d:Nat) (v:Value):upd ρ d v d=v:=by simp [upd]
theorem upd_ne (ρ:Env) {d t:Nat} (v:Value) (h:t≠d):upd ρ d v t=ρ t:=by simp [upd,h]
structure Rep (n:Nat) (a:Act) (ρ:Env):Prop where
 defers:a.defers= []
 size:a.tmps.size=n
 at_:∀t,t<n→a.tmps[t]? =some (ρ t)
theorem Rep.getD {n:Nat} {a:Act} {ρ:Env} (h:Rep n a ρ) {t:Nat} (ht:t<n):a.tmps.getD t undef=ρ t:=by
 have:=h.at_ t ht
 simp [this]
def aKf (n:Nat):Operand→Bool
 |.tmp t=>t<n
 |_=>true
theorem Rep.eval {n:Nat} {a:Act} {ρ:Env} (h:Rep n a ρ) {x:Operand} (hx:aKf n x=true):a.eval x=ev ρ x:=by
 cases x<;>simp only [Act.eval,ev]
 exact h.getD (by simpa [aKf] using hx)
theorem Rep.put {n:Nat} {a:Act} {ρ:Env} (h:Rep n a ρ) {d:Option Tmp} (v:Value) (hd:∀t,d=some t→t<n):Rep n (a.put d v) (put ρ d v):=by
 cases d with
 |none=>exact h
 |some d=>
  have hlt:=hd d rfl
  refine ⟨h.defers,by simp [Act.put,h.size],fun t ht=>?_⟩
  simp only [Act.put,K.put]
  by_cases e:t=d
  ·subst e;rw [upd_same,Array.getElem?_setIfInBounds_self];simp [h.size,ht]
  ·rw [upd_ne _ _ e,Array.getElem?_setIfInBounds_ne (Ne.symm e)];exact h.at_ t ht
def dL (op:BinOp) (k:IntKind) (a b:Int):Option Value:=
 match op with
 |.add=>some (.int k (k.wrap (a+b)))
 |.sub=>some (.int k (k.wrap (a - b)))
 |.mul=>some (.int k (k.wrap (a*b)))
 |.quo=>if b=0 then none else some (.int k (k.wrap (a.tdiv b)))
 |.rem=>if b=0 then none else some (.int k (a.tmod b))
 |.and=>some (.int k (k.wrap (BitVec.ofInt k.bits a&&& BitVec.ofInt k.bits b).toNat))
 |.or=>some (.int k (k.wrap (BitVec.ofInt k.bits a|||BitVec.ofInt k.bits b).toNat))
 |.xor=>some (.int k (k.wrap (BitVec.ofInt k.bits a^^^BitVec.ofInt k.bits b).toNat))
 |.andNot=>some (.int k (k.wrap (BitVec.ofInt k.bits a&&& ~~~ BitVec.ofInt k.bits b).toNat))
 |.eql=>some (.bool (decide (a=b)))
 |.neq=>some (.bool (!decide (a=b)))
 |.lss=>some (.bool (decide (a<b)))
 |.leq=>some (.bool (decide (a≤b)))
 |.gtr=>some (.bool (decide (a>b)))
 |.geq=>some (.bool (decide (a≥b)))
 |_=>none
def bAo (op:BinOp) (x y:ByteArray):Option Value:=
 match op with
 |.add=>if ((x.size+y.size:Nat):Int)>IntKind.i64.max then none else some (.string (x++y))
 |.eql=>some (.bool (decide (x=y)))
 |.neq=>some (.bool (!decide (x=y)))
 |.lss=>some (.bool (Op.bytesLess x.toList y.toList))
 |.leq=>some (.bool (Op.bytesLess x.toList y.toList||decide (x=y)))
 |.gtr=>some (.bool (!(Op.bytesLess x.toList y.toList||decide (x=y))))
 |.geq=>some (.bool (!(Op.bytesLess x.toList y.toList)))
 |_=>none
def dX:BinOp→Bool
 |.shl|.shr=>true
 |_=>false
def cC (op:BinOp):Value→Value→Option Value
 |.int k a,.int k' b=>
  if dX op then
   if b<0 then none else
   match op with
   |.shl=>some (.int k (k.wrap (a*2^(min b.toNat k.bits))))
   |_=>some (.int k (a.fdiv (2^(min b.toNat k.bits))))
  else if k=k' then dL op k a b else none
 |.string x,.string y=>bAo op x y
 |_,_=>none
inductive EqK where
 |bool|pointer|slice|map|func|iface
def eqK:TypeDesc→Option EqK
 |.bool=>some .bool
 |.pointer _=>some .pointer
 |.slice _=>some .slice
 |.map _ _=>some .map
 |.func _ _ _=>some .func
 |.interface _=>some .iface
 |_=>none
def aI8:EqK→Value→Value→Option Bool
 |.pointer,.pointer none,.pointer b=>some b.isNone
 |.pointer,.pointer _,.pointer none=>some false
 |.slice,.slice none _ _,.slice b _ _=>some b.isNone
 |.slice,.slice _ _ _,.slice none _ _=>some false
 |.map,.map none,.map b=>some b.isNone
 |.map,.map _,.map none=>some false
 |.func,.nilFunc,.nilFunc=>some true
 |.func,.nilFunc,.func _ _ _=>some false
 |.func,.func _ _ _,.nilFunc=>some false
 |.iface,.nilIface,.iface _ _=>some false
 |.iface,.iface _ _,.nilIface=>some false
 |.iface,.nilIface,.nilIface=>some true
 |.bool,.bool a,.bool b=>some (a==b)
 |_,_,_=>none
inductive CK where
 |i|s|b
def lG:CK→Value→Value→Option Bool
 |.i,.int k a,.int k' b=>if k=k' then some (decide (a=b)) else none
 |.s,.string a,.string b=>some (decide (a=b))
 |.b,.bool a,.bool b=>some (a==b)
 |_,_,_=>none
def dE:List CK→List Value→List Value→Option Bool
 | [], [], []=>some true
 |c::cs,x::xs,y::ys=>(lG c x y).bind fun b=>(dE cs xs ys).map (b&&·)
 |_,_,_=>none
def aAo (mx:Bool):Value→Value→Option Value
 |.int k x,.int _ y=>some (.int k (if mx then (if y>x then y else x) else (if y<x then y else x)))
 |_,_=>none
def aBc (s:Bool) (ks:List CK) (a b:Value):Option Bool:=
 if s then match a,b with
  |.agg xs,.agg ys=>dE ks xs.toList ys.toList
  |_,_=>none
 else dE ks [a] [b]
def bJa:CK→Value→Bool
 |.i,.int _ _=>true
 |.s,.string _=>true
 |.b,.bool _=>true
 |_,_=>false
def jU:List CK→List Value→Bool
 | [], []=>true
 |c::cs,v::vs=>bJa c v&&jU cs vs
 |_,_=>false
def aHz (s:Bool) (ks:List CK) (v:Value):Bool:=
 if s then match v with
  |.agg xs=>jU ks xs.toList
  |_=>false
 else jU ks [v]
def kA (s:Bool) (ks:List CK) (k:Value):List MapEntry→Nat→Option (Option (Nat × Value))
 | [],_=>some none
 |e::es,i=>match aBc s ks k e.key with
  |some true=>some (some (i,e.val))
  |some false=>kA s ks k es (i+1)
  |none=>none
inductive KOp where
 |move (x:Operand)
 |pick (c a b:Operand)
 |fieldAddr (off:Nat) (x:Operand)
 |indexAddr (size:Nat) (x i:Operand)
 |field (off:Nat) (x:Operand)
 |fieldN (off n:Nat) (x:Operand)
 |extract (i:Nat) (x:Operand)
 |indexStr (x i:Operand)
 |not (x:Operand)
 |nilCheck (x:Operand)
 |nilM (mo:TypeId→Value→String→Bool) (x:Operand)
 |bin (op:BinOp) (x y:Operand)
 |eqNil (neg:Bool) (d:EqK) (x y:Operand)
 |eqAgg (neg:Bool) (ks:List CK) (x y:Operand)
 |len (str:Bool) (x:Operand)
 |conv (k:IntKind) (x:Operand)
 |idStr (x:Operand)
 |sliceStr (x:Operand) (lo hi:Option Operand)
 |sliceSl (size:Nat) (x:Operand) (lo hi:Option Operand)
 |makeFunc (fn:Fn) (first captured:List Operand)
 |iface (t:TypeId) (x:Operand)
 |build (zero:List Value) (parts:List (Nat × Nat × Operand))
 |load (x:Operand)
 |loadN (n:Nat) (x:Operand)
 |lenMap (x:Operand)
 |lookup (s:Bool) (ks:List CK) (zero:Value) (ok:Bool) (m k:Operand)
 |minmax (mx:Bool) (x:Operand) (ys:List Operand)
 |unNeg (xr:Bool) (x:Operand)
 |box (t:TypeId) (x:Operand)
 |alloc (t:TypeId) (zero:List Value)
 |store (x y:Operand)
 |storeN (n:Nat) (x y:Operand)
 |call (f:FuncId) (args:List Operand)
 |callV (x:Operand) (args:List Operand)
 |mapUpdate (s:Bool) (ks:List CK) (m k v:Operand)
 |mapEntry (s:Bool) (ks:List CK) (zero:Value) (m k:Operand)
 |entryStore (m st v:Operand)
 |delete (s:Bool) (ks:List CK) (m k:Operand)
 |makeMap
 |rangeMap (x:Operand)
 |nextMap (it:Operand)
 |entry (it:Operand)
 |buildSlice (t:TypeId) (ln:Nat) (zeros:List Value) (parts:List (Nat × Nat × Operand))
 |append (t:TypeId) (size bytes:Nat) (zero:List Value) (x y:Operand)
 |makeSlice (t:TypeId) (size bytes:Nat) (zero:List Value) (ln cap:Operand)
 |copy (size:Nat) (x y:Operand)
 |bytesOf (t:TypeId) (x:Operand)
 |strOf (x:Operand)
 |pcall (f:FuncId) (F:List Value→Option Value) (args:List Operand)
 |dead
 |capOf (x:Operand)
 |indexArr (size ln:Nat) (x i:Operand)
 |indexAgg (ln:Nat) (x i:Operand)
 |invoke (x:Operand) (name:String) (args:List Operand)
 |assert (ifc:Bool) (ts:List TypeId) (n:Nat) (zero:Value) (ok:Bool) (x:Operand)
 |eqIface (neg:Bool) (ts:List TypeId) (x y:Operand)
 |raw (o:Oper)
def rU (e:Operand→Value):List Value→List (Nat × Nat × Operand)→Option (List Value)
 |cs, []=>some cs
 |cs,(off,n,x)::r=>if (e x).cells.size=n then rU e (cs.take off++(e x).cells.toList++cs.drop (off+n)) r else none
def aJy (ifc:Bool) (ts:List TypeId) (n:Nat) (zero:Value) (ok:Bool):Value→Option Value
 |.nilIface=>if ok then some (.tuple #[zero,.bool false]) else none
 |.iface t v=>if ts.contains t then some (if ok then .tuple #[if ifc then .iface t v else v,.bool true] else if ifc then .iface t v else v)
  else if ok∧(ifc=true→t<n) then some (.tuple #[zero,.bool false]) else none
 |_=>none
def vT (ts:List TypeId):Value→Value→Option Bool
 |.nilIface,.iface _ _=>some false
 |.iface _ _,.nilIface=>some false
 |.iface t a,.iface u b=>if t=u then (if ts.contains t then lG .i a b else none) else some false
 |_,_=>none
def uA (P:Program) (t:TypeId) (v:Value) (name:String):Option (FuncId × Value):=
 match P.info? t,P.underlying t with
 |some i,some d=>match i.methods.find? (·.name==name) with
  |some m=>match m.path.toList,m.func,d with
   | [],some (f,true),.pointer _=>some (f,v)
   | [],some (_,true),_=>none
   | [],some (_,false),.pointer _=>none
   | [],some (f,false),_=>some (f,v)
   |_,_,_=>none
  |none=>none
 |_,_=>none
def aWb (P:Program) (t:TypeId) (v:Value) (name:String):Bool:=(uA P t v name).isSome
def KOp.fix (ρ : Env) : KOp → Option Value
  | .move x => some (ev ρ x)
  | .pick c a b => match ev ρ c with
    | .bool t => some (if t then ev ρ a else ev ρ b)
    | _ => none
  | .fieldAddr off x => match ev ρ x with
    | .pointer (some a) => some (.pointer (some (a.add off)))
    | _ => none
  | .indexAddr size x i => match ev ρ x, ev ρ i with
    | .slice (some a) ln _, .int _ n => if 0 ≤ n ∧ n < (ln : Int) then some (.pointer (some (a.add (n.toNat * size)))) else none
    | _, _ => none
  | .capOf x => match ev ρ x with
    | .slice _ _ c => some (.int .i64 c)
    | _ => none
  | .indexArr size ln x i => match ev ρ x, ev ρ i with
    | .pointer (some a), .int _ n => if 0 ≤ n ∧ n < (ln : Int) then some (.pointer (some (a.add (n.toNat * size)))) else none
    | _, _ => none
  | .indexAgg ln x i => match ev ρ x, ev ρ i with
    | .agg cs, .int _ n => if 0 ≤ n ∧ n < (ln : Int) then cs[n.toNat]? else none
    | _, _ => none
  | .field off x => match ev ρ x with
    | .agg cs => cs[off]?
    | _ => none
  | .fieldN off n x => match ev ρ x with
    | .agg cs => some (.agg (cs.extract off (off + n)))
    | _ => none
  | .extract i x => match ev ρ x with
    | .tuple vs => vs[i]?
    | _ => none
  | .indexStr x i => match ev ρ x, ev ρ i with
    | .string s, .int _ n => if 0 ≤ n then (s[n.toNat]?).map fun b => .int .u8 b.toNat else none
    | _, _ => none
  | .not x => match ev ρ x with
    | .bool b => some (.bool (!b))
    | _ => none
  | .nilCheck x => match ev ρ x with
    | .pointer (some a) => some (.pointer (some a))
    | _ => none
  | .nilM mo x => match ev ρ x with
    | .func (.method name) first captured => match (first[0]? : Option Value) with
      | some (.iface t v) => if mo t v name then some (.func (.method name) first captured) else none
      | _ => none
    | _ => none
  | .bin op x y => cC op (ev ρ x) (ev ρ y)
  | .minmax mx x ys => ys.foldl (fun acc y => acc.bind fun a => aAo mx a (ev ρ y)) (some (ev ρ x))
  | .unNeg xr x => match ev ρ x with
    | .int k n => if xr then dL .xor k (if k.signed then -1 else k.max) n else dL .sub k 0 n
    | _ => none
  | .eqNil neg d x y => (aI8 d (ev ρ x) (ev ρ y)).map fun b => .bool (if neg then !b else b)
  | .eqAgg neg ks x y => match ev ρ x, ev ρ y with
    | .agg xs, .agg ys => (dE ks xs.toList ys.toList).map fun b => .bool (if neg then !b else b)
    | _, _ => none
  | .len true x => match ev ρ x with
    | .string s => some (.int .i64 s.size)
    | _ => none
  | .len false x => match ev ρ x with
    | .slice _ n _ => some (.int .i64 n)
    | _ => none
  | .conv k x => match ev ρ x with
    | .int _ n => some (.int k (k.wrap n))
    | _ => none
  | .idStr x => match ev ρ x with
    | .string s => some (.string s)
    | _ => none
  | .sliceStr x lo hi => match ev ρ x with
    | .string s =>
      (match hi with
       | none => some s.size
       | some h => match ev ρ h with
         | .int _ n => if 0 ≤ n ∧ n ≤ (s.size : Int) then some n.toNat else none
         | _ => none).bind fun h =>
      (match lo with
       | none => some 0
       | some l => match ev ρ l with
         | .int _ n => if 0 ≤ n ∧ n ≤ (h : Int) then some n.toNat else none
         | _ => none).map fun l => .string (s.extract l h)
    | _ => none
  | .sliceSl size x lo hi => match ev ρ x with
    | .slice a ln cap =>
      (match hi with
       | none => some ln
       | some h => match ev ρ h with
         | .int _ n => if 0 ≤ n ∧ n ≤ (cap : Int) then some n.toNat else none
         | _ => none).bind fun h =>
      (match lo with
       | none => some 0
       | some l => match ev ρ l with
         | .int _ n => if 0 ≤ n ∧ n ≤ (h : Int) then some n.toNat else none
         | _ => none).map fun l => .slice (if cap = l then a else a.map (fun ad : Addr => ad.add (l * size))) (h - l) (cap - l)
    | _ => none
  | .makeFunc fn first captured => some (.func fn (first.map (ev ρ)).toArray (captured.map (ev ρ)).toArray)
  | .iface t x => some (.iface t (ev ρ x))
  | .assert ifc ts n zero ok x => aJy ifc ts n zero ok (ev ρ x)
  | .eqIface neg ts x y => (vT ts (ev ρ x) (ev ρ y)).map fun b => .bool (if neg then !b else b)
  | .build zero parts =>
    (rU (ev ρ) zero parts).map fun cs => .agg cs.toArray
  | _ => none
def rdCells (w:World) (a:Addr):Nat→Nat→Option (List Value)
 |_,0=>some []
 |i,n+1=>(w.cell? (a.add i)).bind fun v=>(rdCells w a (i+1) n).map (v::·)
def KOp.rd (ρ:Env) (w:World):KOp→Option Value
 |.load x=>match ev ρ x with
  |.pointer (some a)=>w.cell? a
  |_=>none
 |.loadN n x=>match ev ρ x with
  |.pointer (some a)=>(rdCells w a 0 n).map fun l=>.agg l.toArray
  |_=>none
 |.pcall _ F args=>F (args.map (ev ρ))
 |.lenMap x=>match ev ρ x with
  |.map none=>some (.int .i64 0)
  |.map (some r)=>match w.heap[r]? with
   |some (.map es _)=>some (.int .i64 es.size)
   |_=>none
  |_=>none
 |.lookup s ks zero ok m k=>if aHz s ks (ev ρ k) then match ev ρ m with
  |.map none=>some (if ok then .tuple #[zero,.bool false] else zero)
  |.map (some r)=>match w.heap[r]? with
   |some (.map es _)=>(kA s ks (ev ρ k) es.toList 0).map fun f=>match f with
    |some (_,v)=>if ok then .tuple #[v,.bool true] else v
    |none=>if ok then .tuple #[zero,.bool false] else zero
   |_=>none
  |_=>none
  else none
 |o=>o.fix ρ
def KOp.isFix:KOp→Bool
 |.load ..|.loadN ..|.lenMap ..|.lookup ..|.box ..|.alloc ..|.store ..|.storeN ..|.call ..|.callV ..|.invoke ..|.raw ..|.dead|.pcall ..=>false
 |.mapUpdate ..|.mapEntry ..|.entryStore ..|.delete ..|.makeMap|.rangeMap ..|.nextMap ..|.entry ..|.buildSlice ..|.append ..|.makeSlice ..|.copy ..|.bytesOf ..|.strOf ..=>false
 |_=>true
def KOp.isStill:KOp→Bool
 |.load ..|.loadN ..|.lenMap ..|.lookup ..|.pcall ..=>true
 |o=>o.isFix
def KOp.isMaker:KOp→Bool
 |.box ..|.alloc ..=>true
 |_=>false
theorem KOp.rd_fix {ρ:Env} {w:World} {o:KOp} (h:o.isFix=true):o.rd ρ w=o.fix ρ:=by cases o<;>simp_all [isFix,rd]
def KOp.isPc:KOp→Bool
 |.pcall ..=>true
 |_=>false
def jL (w:World) (a:Addr):Nat→List Value→World
 |_, []=>w
 |i,v::vs=>jL (w.setCell (a.add i) v) a (i+1) vs
def aSt (w:World) (a:Addr) (i n:Nat):Prop:=∀j,i≤j→j<i+n→(w.cell? (a.add j)).isSome=true∧w.frozen? (a.add j)=false
def cM (P:Program) (f:FuncId):Bool:=match P.funcs[f]? with
 |some fn=>fn.body.isSome&&!(fn.name== "runtime.NumGoroutine")
 |none=>false
def eL (w:World) (r:Nat) (o:Obj):World:={w with heap:=w.heap.setIfInBounds r o}
def jB (es:Array MapEntry) (clock:Nat) (k v:Value):Option (Nat × Value)→Array MapEntry × Nat
 |some (i,_)=>(es.modify i fun e=>{e with key:=k,val:=v},clock)
 |none=>(es.push {key:=k,val:=v,born:=clock},clock+1)
def mX (s:ByteArray):List Value:=s.data.toList.map fun b=>.int .u8 b.toNat
def zeros (zero:List Value):Nat→List Value
 |0=> []
 |n+1=>zero++zeros zero n
def dD (w:World) (size:Nat):Value→Option (Nat × List Value)
 |.slice (some a) n _=>(rdCells w a 0 (n*size)).map fun l=>(n,l)
 |.slice none n _=>some (n, [])
 |.string s=>some (s.size,mX s)
 |_=>none
def KOp.wp (P : Program) (ρ : Env) (w : World) (k : Value → World → Prop) : KOp → Prop
  | .box t x => k (.pointer (some ⟨w.heap.size, 0, none⟩)) (w.alloc (.cells (ev ρ x).cells t))
  | .alloc t zero => k (.pointer (some ⟨w.heap.size, 0, none⟩)) (w.alloc (.cells zero.toArray t))
  | .store x y => ∃ a, ev ρ x = .pointer (some a) ∧ (ev ρ y).oneCell' = true ∧ (w.cell? a).isSome = true ∧ w.frozen? a = false ∧ k undef (w.setCell a (ev ρ y))
  | .storeN n x y => ∃ a vs, ev ρ x = .pointer (some a) ∧ ev ρ y = .agg vs ∧ vs.size = n ∧ (∀ v ∈ vs.toList, v.oneCell' = true) ∧ aSt w a 0 n ∧ k undef (jL w a 0 vs.toList)
  | .call f args => Calls P f (args.map (ev ρ)).toArray w fun e w' => ∃ v, e = .returned v ∧ k v w'
  | .callV x args => ∃ f first cap, ev ρ x = .func (.func f) first cap ∧ cM P f = true ∧ Calls P f (first ++ (args.map (ev ρ)).toArray ++ cap) w fun e w' => ∃ v, e = .returned v ∧ k v w'
  | .invoke x name args => ∃ t v f rv, ev ρ x = .iface t v ∧ uA P t v name = some (f, rv) ∧ cM P f = true ∧ Calls P f (rv :: args.map (ev ρ)).toArray w fun e w' => ∃ v, e = .returned v ∧ k v w'
  | .mapUpdate s ks m kk v => ∃ r es clock f, ev ρ m = .map (some r) ∧ w.heap[r]? = some (.map es clock) ∧ aHz s ks (ev ρ kk) = true ∧ kA s ks (ev ρ kk) es.toList 0 = some f ∧
      k undef (eL w r (.map (jB es clock (ev ρ kk) (ev ρ v) f).1 (jB es clock (ev ρ kk) (ev ρ v) f).2))
  | .mapEntry s ks zero m kk => ∃ r es clock f, ev ρ m = .map (some r) ∧ w.heap[r]? = some (.map es clock) ∧ aHz s ks (ev ρ kk) = true ∧ kA s ks (ev ρ kk) es.toList 0 = some f ∧
      match f with
      | some (i, v) => k (.tuple #[v, .int .i64 (((es[i]?).map (·.born)).getD 0 : Nat)]) (eL w r (.map (es.modify i fun e => { e with key := ev ρ kk }) clock))
      | none => k (.tuple #[zero, .int .i64 (clock : Nat)]) (eL w r (.map (es.push { key := ev ρ kk, val := zero, born := clock }) (clock + 1)))
  | .entryStore m st v => ∃ r es clock kd n i, ev ρ m = .map (some r) ∧ w.heap[r]? = some (.map es clock) ∧ ev ρ st = .int kd n ∧ es.findIdx? (fun e => (e.born : Int) == n) = some i ∧
      k undef (eL w r (.map (es.modify i fun e => { e with val := ev ρ v }) clock))
  | .delete s ks m kk => ∃ r es clock f, ev ρ m = .map (some r) ∧ w.heap[r]? = some (.map es clock) ∧ aHz s ks (ev ρ kk) = true ∧ kA s ks (ev ρ kk) es.toList 0 = some f ∧
      k (.tuple #[]) (eL w r (.map (match f with | some (i, _) => es.eraseIdxIfInBounds i | none => es) clock))
  | .makeMap => k (.map (some w.heap.size)) (w.alloc (.map #[] 0))
  | .rangeMap x => ∃ r es clock, ev ρ x = .map (some r) ∧ w.heap[r]? = some (.map es clock) ∧ k (.pointer (some ⟨w.heap.size, 0, none⟩)) (w.alloc (.mapIter (some r) clock #[] clock))
  | .nextMap it => ∃ b m since seen last es clock, ev ρ it = .pointer (some ⟨b, 0, none⟩) ∧ w.heap[b]? = some (.mapIter (some m) since seen last) ∧ w.heap[m]? = some (.map es clock) ∧
      (∀ e ∈ es, e.born < since) ∧ clock = last ∧ (seen.isEmpty = true ∨ es.isEmpty = true ∨ ∃ e ∈ es, e.born < last) ∧
      ((es.filter fun e => !seen.contains e.born).isEmpty = true → ∀ w', (w' = w ∨ w' = w.drew) → k (.tuple #[.bool false]) w') ∧
      ∀ e ∈ es.filter (fun e => !seen.contains e.born), ∀ w', (w' = w ∨ w' = w.drew) → k (.tuple #[.bool true, e.key, e.val]) (eL w' b (.mapIter (some m) since (seen.push e.born) clock))
  | .entry it => ∃ b m since seen stepped st es e, ev ρ it = .pointer (some ⟨b, 0, none⟩) ∧ w.heap[b]? = some (.mapIter (some m) since seen stepped) ∧ seen.back? = some st ∧ w.heap[m]? = some (.map es stepped) ∧
      es.find? (·.born == st) = some e ∧ k (.tuple #[e.key, e.val]) w
  | .buildSlice t ln zs ps => ∃ cs, rU (ev ρ) zs ps = some cs ∧ k (.slice (some ⟨w.heap.size, 0, none⟩) ln ln) (w.alloc (.cells cs.toArray t))
  | .append t size bytes zero x y => ∃ base sLen sCap n new, ev ρ x = .slice base sLen sCap ∧ dD w size (ev ρ y) = some (n, new) ∧
      ((sLen + n ≤ sCap → match base with
        | some a => (∀ v ∈ new, v.oneCell' = true) ∧ aSt w (a.add (sLen * size)) 0 new.length ∧ k (.slice base (sLen + n) sCap) (jL w (a.add (sLen * size)) 0 new)
        | none => k (.slice base (sLen + n) sCap) w) ∧
       (sCap < sLen + n → ∃ old, dD w size (.slice base sLen sCap) = some (sLen, old) ∧ Builtin.nextslicecap (sLen + n) sCap * bytes ≤ 2 ^ 48 ∧
          ∀ c, sLen + n ≤ c → k (.slice (some ⟨w.heap.size, 0, none⟩) (sLen + n) c) (w.drew.alloc (.cells (old ++ new ++ zeros zero (c - (sLen + n))).toArray t))))
  | .makeSlice t _ bytes zero ln cap => ∃ kd ke l c, ev ρ ln = .int kd l ∧ ev ρ cap = .int ke c ∧ 0 ≤ l ∧ l ≤ c ∧ c ≤ 2 ^ 62 ∧ bytes * c ≤ 2 ^ 48 ∧
      k (.slice (some ⟨w.heap.size, 0, none⟩) l.toNat c.toNat) (w.alloc (.cells (zeros zero c.toNat).toArray t))
  | .copy size x y => ∃ base dLen cap n new, ev ρ x = .slice base dLen cap ∧ dD w size (ev ρ y) = some (n, new) ∧
      ((∃ a m c, ev ρ y = .slice a m c) ∨ size = 1) ∧ (∀ v ∈ new, v.oneCell' = true) ∧ (∀ a, base = some a → aSt w a 0 (min n dLen * size)) ∧
      k (.int .i64 (min n dLen : Nat)) (match base with | some a => jL w a 0 (new.take (min n dLen * size)) | none => w)
  | .bytesOf t x => ∃ s, ev ρ x = .string s ∧ ∀ c, s.size ≤ c → ∀ w', (∀ b, b < w.heap.size → w'.heap[b]? = w.heap[b]?) → w'.heap.size = w.heap.size + 1 → w'.tape = w.tape → w'.os = w.os → w'.output = w.output →
      (∃ fz, w'.heap[w.heap.size]? = some (.cells (mX s ++ List.replicate (c - s.size) (Value.int .u8 0)).toArray t fz)) → k (.slice (some ⟨w.heap.size, 0, none⟩) s.size c) w'
  | .strOf x => ∃ a n c bs, ev ρ x = .slice a n c ∧ dD w 1 (ev ρ x) = some (n, List.map (fun b : UInt8 => Value.int .u8 b.toNat) bs) ∧ k (.string ⟨bs.toArray⟩) w
  | .dead => False
  | .raw o => match (execOp (ev ρ) o).run P w with
    | .ok (.value v) w' => k v w'
    | .ok .skip w' => k undef w'
    | .ok (.enter f args) w' => Calls P f args w' fun e w'' => ∃ v, e = .returned v ∧ k v w''
    | _ => False
  | o => ∃ v, o.rd ρ w = some v ∧ k v w
def sC (P:Program) (t:TypeId):Option (Option Nat):=
 match P.underlying t,P.info? t with
 |some (.struct _),some i|some (.array _ _),some i=>some (some i.size)
 |some _,some _=>some none
 |_,_=>none
def aNk (P:Program) (t:TypeId) (i:Nat):Option Field:=
 match P.underlying t with
 |some (.struct fs)=>fs[i]?
 |_=>none
def iK (P:Program):Nat→TypeId→Option (List CK)
 |0,_=>none
 |d+1,t=>match P.underlying t with
  |some .bool=>some [.b]
  |some (.int _)=>some [.i]
  |some .string=>some [.s]
  |some (.struct fs)=>if P.stoodInHeld t then none else
   fs.toList.foldl (fun acc f=>acc.bind fun ks=>(iK P d f.type).bind fun l=>if f.name≠ "_" ∧f.offset=ks.length∧(P.info? f.type).map (·.size)=some l.length then some (ks++l) else none) (some [])
  |_=>none
def places (P:Program):List Field→Option (List (Nat × Nat))
 | []=>some []
 |f::r=>(P.info? f.type).bind fun inf=>(places P r).map ((f.offset,inf.size)::·)
def placesOf (P:Program) (t:TypeId):Option (List (Nat × Nat)):=
 match P.underlying t with
 |some (.struct fs)=>places P fs.toList
 |_=>none
def qA (pl:List (Nat × Nat)):List (Nat × Operand)→Option (List (Nat × Nat × Operand))
 | []=>some []
 |(i,x)::r=>(pl[i]?).bind fun p=>(qA pl r).map ((p.1,p.2,x)::·)
def bC8 (P:Program) (t:TypeId):Option Nat:=
 match P.underlying t with
 |some (.array _ e)=>(P.info? e).map (·.size)
 |_=>none
def zeroOf (P:Program) (t:TypeId):Option Value:=(P.info? t).bind (·.zero)
def keyOf (P:Program) (t:TypeId):Option (Bool × List CK × TypeId):=
 match P.underlying t with
 |some (.map k e)=>(iK P 20 k).map fun ks=>((match P.underlying k with|some (.struct _)=>true|_=>false),ks,e)
 |_=>none
def bJ0 (want:Array (String × TypeId)) (got:Array Method):Bool:=want.toList.any fun (name,sig)=>!got.any fun m=>m.name==name&&m.sig==sig
theorem aPp {l:List String}:Instr.least l=none↔l= []:=by cases l<;>simp [Instr.least]
theorem aJi {want:Array (String × TypeId)} {got:Array Method}:Instr.missingMethod want got=none↔bJ0 want got=false:=by
 unfold Instr.missingMethod bJ0
 generalize hl:((want.toList.filter fun (name,sig)=>!got.any fun m=>m.name==name&&m.sig==sig).map (·.1))=l
 have h1:(want.toList.any fun (name,sig)=>!got.any fun m=>m.name==name&&m.sig==sig)=false↔l= []:=by
  rw [←hl,List.map_eq_nil_iff,List.filter_eq_nil_iff,List.any_eq_false]
 rw [h1]
 dsimp only
 rw [List.partition_eq_filter_filter]
 dsimp only
 constructor
 ·intro h
  cases l with
  |nil=>rfl
  |cons a l=>
   cases hc:a.contains (Char.ofNat 46) with
   |true=>
    cases h2:Instr.least (List.filter (not ∘ fun x:String=>x.contains (Char.ofNat 46)) (a::l)) with
    |some x=>rw [h2] at h;cases h
    |none=>
     rw [h2] at h
     have h:Instr.least _=none:=h
     rw [aPp,List.map_eq_nil_iff,List.filter_eq_nil_iff] at h
     exact absurd hc (h a (by simp))
   |false=>
    cases h2:Instr.least (List.filter (not ∘ fun x:String=>x.contains (Char.ofNat 46)) (a::l)) with
    |some x=>rw [h2] at h;cases h
    |none=>
     rw [aPp,List.filter_eq_nil_iff] at h2
     exact absurd (show (!a.contains (Char.ofNat 46))=true by rw [hc];rfl) (h2 a (by simp))
 ·rintro rfl
  rfl
def aD6 (P:Program) (a:TypeId):List TypeId:=match P.underlying a with
 |some (.interface want)=>(List.range P.types.size).filter fun t=>match P.info? t with
  |some i=>!bJ0 want i.methods
  |none=>false
 |_=> []
def aI2 (P:Program):List TypeId:=(List.range P.types.size).filter fun t=>match P.info? t,P.underlying t with
 |some i,some (.int _)=>i.comparable
 |_,_=>false
class Quiet (P:Program) where
 tab:FuncId→Option (List Value→Option Value)
 ok:∀f F args v w,tab f=some F→F args=some v→Calls P f args.toArray w fun e w'=>e=.returned v∧w'=w
def aH (P:Program) [Quiet P] (o:Oper):KOp:=
 match o.op with
 |.move x|.assign x=>.move x
 |.pick c a b=>.pick c a b
 |.fieldAddr t x i=>match aNk P t i with
  |some f=>match P.info? f.type with
   |some inf=>if inf.size=0 then .raw o else .fieldAddr f.offset x
   |none=>.raw o
  |none=>.raw o
 |.indexAddr t x i=>match P.underlying t with
  |some (.slice e)=>match P.info? e with
   |some inf=>.indexAddr inf.size x i
   |none=>.raw o
  |some (.array n e)=>match P.info? e with
   |some inf=>.indexArr inf.size n x i
   |none=>.raw o
  |_=>.raw o
 |.field t x i=>match aNk P t i with
  |some f=>match sC P f.type with
   |some (some n)=>.fieldN f.offset n x
   |some none=>.field f.offset x
   |none=>.raw o
  |none=>.raw o
 |.extract x i=>.extract i x
 |.index t x i=>match P.underlying t with
  |some .string=>.indexStr x i
  |some (.array n e)=>match sC P e,P.info? e with
   |some none,some inf=>if inf.size=1 then .indexAgg n x i else .raw o
   |_,_=>.raw o
  |_=>.raw o
 |.unOp .not _ x=>.not x
 |.unOp .neg _ x=>.unNeg false x
 |.unOp .xor _ x=>.unNeg true x
 |.nilCheck x=>if Nat.beq o.type 0=true then .nilCheck x else match P.underlying o.type with
  |some (.func _ _ _)=>.nilM (aWb P) x
  |_=>.nilCheck x
 |.binOp op t x y _=>
  if op=.eql∨op=.neq then
   match P.underlying t with
   |some (.int _)|some .string=>.bin op x y
   |some (.struct _)=>if P.eqGuardType P.depth t then .raw o else (match iK P 20 t with|some n=>.eqAgg (op=.neq) n x y|none=>.raw o)
   |some d=>match eqK d with
    |some .iface=>if Region.isConst x||Region.isConst y then .eqNil (op=.neq) .iface x y else .eqIface (op=.neq) (aI2 P) x y
    |some k=>.eqNil (op=.neq) k x y
    |none=>.raw o
   |none=>.raw o
  else .bin op x y
 |.convert s d x=>match P.underlying s,P.underlying d with
  |some _,some (.int k)=>.conv k x
  |some .string,some .string=>.idStr x
  |some .string,some (.slice e)=>match P.underlying e with
   |some (.int .u8)=>.bytesOf e x
   |_=>.raw o
  |some (.slice e),some .string=>match P.underlying e with
   |some (.int .u8)=>.strOf x
   |_=>.raw o
  |_,_=>.raw o
 |.slice t x lo hi none=>match P.underlying t with
  |some .string=>.sliceStr x lo hi
  |some (.slice e)=>match P.info? e with
   |some inf=>.sliceSl inf.size x lo hi
   |none=>.raw o
  |_=>.raw o
 |.makeFunc fn f c=>.makeFunc fn f.toList c.toList
 |.makeInterface t x=>match P.underlying t with
  |some (.interface _)=>.raw o
  |some _=>.iface t x
  |none=>.raw o
 |.build t parts=>match P.info? t with
  |some inf=>match inf.zero with
   |some z=>match (placesOf P t).bind fun pl=>qA pl parts.toList with
    |some ps=>if ps.all (fun p=>p.1+p.2.1≤z.cells.size) then .build z.cells.toList ps else .raw o
    |none=>match bC8 P t with
     |some sz=>if parts.toList.all (fun p=>p.1*sz+sz≤z.cells.size) then .build z.cells.toList (parts.toList.map fun p=>(p.1*sz,sz,p.2)) else .raw o
     |none=>.raw o
   |none=>.raw o
  |none=>.raw o
 |.load t x=>match sC P t with
  |some (some n)=>.loadN n x
  |some none=>.load x
  |none=>.raw o
 |.box t x=>.box t x
 |.alloc t=>match P.info? t with
  |some inf=>match inf.zero with
   |some z=>.alloc t z.cells.toList
   |none=>.raw o
  |none=>.raw o
 |.store t x y=>match sC P t,P.info? t with
  |some (some n),_=>.storeN n x y
  |some none,some inf=>if inf.size=1 then .store x y else .raw o
  |_,_=>.raw o
 |.panic _=>.dead
 |.call {callee:=.value (.func f),args,..}=>if cM P f then (match Quiet.tab P f with
  |some F=>.pcall f F args.toList
  |none=>.call f args.toList) else .raw o
 |.call {callee:=.value (.tmp t),args,..}=>.callV (.tmp t) args.toList
 |.call {callee:=.invoke x name,args,..}=>.invoke x name args.toList
 |.typeAssert x _ a ok=>match P.underlying a,zeroOf P a with
  |some (.interface _),some z=>.assert true (aD6 P a) P.types.size z ok x
  |some _,some z=>.assert false [a] 0 z ok x
  |_,_=>.raw o
 |.call {callee:=.builtin .len,args,argTypes}=>match args.toList,argTypes.toList with
  | [x], [t]=>match P.underlying t with
   |some .string=>.len true x
   |some (.slice _)=>.len false x
   |some (.map _ _)=>.lenMap x
   |_=>.raw o
  |_,_=>.raw o
 |.lookup t m k ok=>match keyOf P t with
  |some (s,ks,e)=>match zeroOf P e with
   |some z=>.lookup s ks z ok m k
   |none=>.raw o
  |none=>.raw o
 |.mapUpdate t m k v=>match keyOf P t with
  |some (s,ks,_)=>.mapUpdate s ks m k v
  |none=>.raw o
 |.mapEntry t m k=>match keyOf P t with
  |some (s,ks,e)=>match zeroOf P e with
   |some z=>.mapEntry s ks z m k
   |none=>.raw o
  |none=>.raw o
 |.entryStore _ m s v=>.entryStore m s v
 |.makeMap _ none=>.makeMap
 |.range t x=>match P.underlying t with
  |some (.map _ _)=>.rangeMap x
  |_=>.raw o
 |.next it false=>.nextMap it
 |.entry it=>.entry it
 |.buildSlice t ln parts=>match P.underlying t with
  |some (.slice e)=>match P.info? e,zeroOf P e with
   |some inf,some z=>
    if ln*inf.size≤2^24∧z.cells.size=inf.size∧0<inf.size∧parts.toList.all (fun p=>(p.1+1)*inf.size≤ln*inf.size) then
     .buildSlice e ln (zeros z.cells.toList ln) (parts.toList.map fun p=>(p.1*inf.size,inf.size,p.2))
    else .raw o
   |_,_=>.raw o
  |_=>.raw o
 |.makeSlice t l c=>match P.underlying t with
  |some (.slice e)=>match P.info? e,zeroOf P e with
   |some inf,some z=>if z.cells.size=inf.size∧0<inf.size then .makeSlice e inf.size inf.bytes z.cells.toList l c else .raw o
   |_,_=>.raw o
  |_=>.raw o
 |.call {callee:=.builtin .delete,args,argTypes}=>match args.toList,argTypes.toList with
  | [m,k],t::_=>match keyOf P t with
   |some (s,ks,_)=>.delete s ks m k
   |none=>.raw o
  |_,_=>.raw o
 |.call {callee:=.builtin .cap,args,argTypes}=>match args.toList,argTypes.toList with
  | [x], [t]=>match P.underlying t with
   |some (.slice _)=>.capOf x
   |_=>.raw o
  |_,_=>.raw o
 |.call {callee:=.builtin .append,args,argTypes}=>match args.toList,argTypes.toList with
  | [x,y], [t,u]=>match P.underlying t,P.underlying u with
   |some (.slice _),some (.int _)=>.raw o
   |some (.slice e),some _=>match P.info? e,zeroOf P e with
    |some inf,some z=>if z.cells.size=inf.size∧0<inf.size∧inf.bytes≠0 then .append e inf.size inf.bytes z.cells.toList x y else .raw o
    |_,_=>.raw o
   |_,_=>.raw o
  |_,_=>.raw o
 |.call {callee:=.builtin .copy,args,argTypes}=>match args.toList,argTypes.toList with
  | [x,y],t::_=>match P.underlying t with
   |some (.slice e)=>match P.info? e with
    |some inf=>.copy inf.size x y
    |none=>.raw o
   |_=>.raw o
  |_,_=>.raw o
 |.call {callee:=.builtin .min,args,..}=>match args.toList with
  |x::ys=>.minmax false x ys
  | []=>.raw o
 |.call {callee:=.builtin .max,args,..}=>match args.toList with
  |x::ys=>.minmax true x ys
  | []=>.raw o
 |_=>.raw o
end
end Go.K
