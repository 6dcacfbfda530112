/- The engine, part 1: operations with their types resolved, an -/
import Derived.WalkKit
import Derived.Orders
import Derived.Still
set_option linter.unusedVariables false
set_option linter.unusedSimpArgs false
namespace Go
theorem nLt{a b c:Nat}(h:a<b)(k:b≤c):a<c:=Nat.lt_of_lt_of_le h k
theorem nTr{a b c:Nat}(h:a≤b)(k:b≤c):a≤c:=Nat.le_trans h k
theorem dTr{p:Prop}[i:Decidable p](h:p):decide p=true:=decide_eq_true h
theorem dFa{p:Prop}[i:Decidable p](h:¬p):decide p=false:=decide_eq_false h
theorem tLe{α:Type _}{l:List α}{i:Nat}(h:l.length≤i):l.take i=l:=List.take_of_length_le h
theorem gMe{α:Type _}{l:List α}{n:Nat}(h:n<l.length):l[n]∈l:=List.getElem_mem h
end Go
namespace Go.K
section
open Go
abbrev Env:=Nat→Value
def upd (ρ:Env) (d:Nat) (v:Value):Env:=fun t=>if t=d then v else ρ t
def ev (ρ:Env):Operand→Value
 |.tmp t=>ρ t
 |.const v=>v
 |.global g=>.pointer (some ⟨g,0,none⟩)
 |.func f=>.func (.func f) #[] #[]
def put (ρ:Env):Option Tmp→Value→Env
 |some d,v=>upd ρ d v
 |none,_=>ρ
theorem upd_same (ρ:Env) (d:Nat) (v:Value):upd ρ d v d=v:=by simp [upd]
theorem upd_ne (ρ:Env) {d t:Nat} (v:Value) (h:t≠d):upd ρ d v t=ρ t:=by simp [upd,h]
structure Rep (n:Nat) (a:Act) (ρ:Env):Prop where
 defers:a.defers= []
 size:a.tmps.size=n
 at_:∀t,t<n→a.tmps[t]? =some (ρ t)
theorem Rep.getD {n:Nat} {a:Act} {ρ:Env} (h:Rep n a ρ) {t:Nat} (ht:t<n):a.tmps.getD t undef=ρ t:=by
 have:=h.at_ t ht
 simp [this]
def aKj (n:Nat):Operand→Bool
 |.tmp t=>t<n
 |_=>true
theorem Rep.eval {n:Nat} {a:Act} {ρ:Env} (h:Rep n a ρ) {x:Operand} (hx:aKj n x=true):a.eval x=ev ρ x:=by
 cases x<;>simp only [Act.eval,ev]
 exact h.getD (by grind [aKj])
theorem Rep.put {n:Nat} {a:Act} {ρ:Env} (h:Rep n a ρ) {d:Option Tmp} (v:Value) (hd:∀t,d=some t→t<n):Rep n (a.put d v) (put ρ d v):=by
 cases d with
 |none=>exact h
 |some d=>
  have hlt:=hd d rfl
  refine ⟨h.defers,by simp [Act.put,h.size],fun t ht=>?_⟩
  simp only [Act.put,K.put]
  by_cases e:t=d
  ·subst e;rw [upd_same,Array.getElem?_setIfInBounds_self];simp [h.size,ht]
  ·rw [upd_ne _ _ e,Array.getElem?_setIfInBounds_ne (Ne.symm e)];exact h.at_ t ht
def dG (op:BinOp) (k:IntKind) (a b:Int):Option Value:=
 match op with
 |.add=>some (.int k (k.wrap (a+b)))
 |.sub=>some (.int k (k.wrap (a - b)))
 |.mul=>some (.int k (k.wrap (a*b)))
 |.quo=>if b=0 then none else some (.int k (k.wrap (a.tdiv b)))
 |.rem=>if b=0 then none else some (.int k (a.tmod b))
 |.and=>some (.int k (k.wrap (BitVec.ofInt k.bits a&&& BitVec.ofInt k.bits b).toNat))
 |.or=>some (.int k (k.wrap (BitVec.ofInt k.bits a|||BitVec.ofInt k.bits b).toNat))
 |.xor=>some (.int k (k.wrap (BitVec.ofInt k.bits a^^^BitVec.ofInt k.bits b).toNat))
 |.andNot=>some (.int k (k.wrap (BitVec.ofInt k.bits a&&& ~~~ BitVec.ofInt k.bits b).toNat))
 |.eql=>some (.bool (decide (a=b)))
 |.neq=>some (.bool (!decide (a=b)))
 |.lss=>some (.bool (decide (a<b)))
 |.leq=>some (.bool (decide (a≤b)))
 |.gtr=>some (.bool (decide (a>b)))
 |.geq=>some (.bool (decide (a≥b)))
 |_=>none
def bCa (op:BinOp) (x y:ByteArray):Option Value:=
 match op with
 |.add=>if ((x.size+y.size:Nat):Int)>IntKind.i64.max then none else some (.string (x++y))
 |.eql=>some (.bool (decide (x=y)))
 |.neq=>some (.bool (!decide (x=y)))
 |.lss=>some (.bool (Op.bytesLess x.toList y.toList))
 |.leq=>some (.bool (Op.bytesLess x.toList y.toList||decide (x=y)))
 |.gtr=>some (.bool (!(Op.bytesLess x.toList y.toList||decide (x=y))))
 |.geq=>some (.bool (!(Op.bytesLess x.toList y.toList)))
 |_=>none
def dK:BinOp→Bool
 |.shl|.shr=>true
 |_=>false
def bM (op:BinOp):Value→Value→Option Value
 |.int k a,.int k' b=>
  if dK op then
   if b<0 then none else
   match op with
   |.shl=>some (.int k (k.wrap (a*2^(min b.toNat k.bits))))
   |_=>some (.int k (a.fdiv (2^(min b.toNat k.bits))))
  else if k=k' then dG op k a b else none
 |.string x,.string y=>bCa op x y
 |_,_=>none
inductive EqK where
 |bool|pointer|slice|map|func|iface
def eqK:TypeDesc→Option EqK
 |.bool=>some .bool
 |.pointer _=>some .pointer
 |.slice _=>some .slice
 |.map _ _=>some .map
 |.func _ _ _=>some .func
 |.interface _=>some .iface
 |_=>none
def aG9:EqK→Value→Value→Option Bool
 |.pointer,.pointer none,.pointer b=>some b.isNone
 |.pointer,.pointer _,.pointer none=>some false
 |.slice,.slice none _ _,.slice b _ _=>some b.isNone
 |.slice,.slice _ _ _,.slice none _ _=>some false
 |.map,.map none,.map b=>some b.isNone
 |.map,.map _,.map none=>some false
 |.func,.nilFunc,.nilFunc=>some true
 |.func,.nilFunc,.func _ _ _=>some false
 |.func,.func _ _ _,.nilFunc=>some false
 |.iface,.nilIface,.iface _ _=>some false
 |.iface,.iface _ _,.nilIface=>some false
 |.iface,.nilIface,.nilIface=>some true
 |.bool,.bool a,.bool b=>some (a==b)
 |_,_,_=>none
inductive CK where
 |i|s|b
def kR:CK→Value→Value→Option Bool
 |.i,.int k a,.int k' b=>if k=k' then some (decide (a=b)) else none
 |.s,.string a,.string b=>some (decide (a=b))
 |.b,.bool a,.bool b=>some (a==b)
 |_,_,_=>none
def cU:List CK→List Value→List Value→Option Bool
 | [], [], []=>some true
 |c::cs,x::xs,y::ys=>(kR c x y).bind fun b=>(cU cs xs ys).map (b&&·)
 |_,_,_=>none
def wC (mx:Bool):Value→Value→Option Value
 |.int k x,.int _ y=>some (.int k (if mx then (if y>x then y else x) else (if y<x then y else x)))
 |_,_=>none
def aBf (s:Bool) (ks:List CK) (a b:Value):Option Bool:=
 if s then match a,b with
  |.agg xs,.agg ys=>cU ks xs.toList ys.toList
  |_,_=>none
 else cU ks [a] [b]
def bIs:CK→Value→Bool
 |.i,.int _ _=>true
 |.s,.string _=>true
 |.b,.bool _=>true
 |_,_=>false
def jS:List CK→List Value→Bool
 | [], []=>true
 |c::cs,v::vs=>bIs c v&&jS cs vs
 |_,_=>false
def aJh (s:Bool) (ks:List CK) (v:Value):Bool:=
 if s then match v with
  |.agg xs=>jS ks xs.toList
  |_=>false
 else jS ks [v]
def kC (s:Bool) (ks:List CK) (k:Value):List MapEntry→Nat→Option (Option (Nat × Value))
 | [],_=>some none
 |e::es,i=>match aBf s ks k e.key with
  |some true=>some (some (i,e.val))
  |some false=>kC s ks k es (i+1)
  |none=>none
inductive KOp where
 |move (x:Operand)
 |pick (c a b:Operand)
 |fieldAddr (off:Nat) (x:Operand)
 |indexAddr (size:Nat) (x i:Operand)
 |field (off:Nat) (x:Operand)
 |fieldN (off n:Nat) (x:Operand)
 |extract (i:Nat) (x:Operand)
 |indexStr (x i:Operand)
 |not (x:Operand)
 |nilCheck (x:Operand)
 |nilM (mo:TypeId→Value→String→Bool) (x:Operand)
 |bin (op:BinOp) (x y:Operand)
 |eqNil (neg:Bool) (d:EqK) (x y:Operand)
 |eqAgg (neg:Bool) (ks:List CK) (x y:Operand)
 |len (str:Bool) (x:Operand)
 |conv (k:IntKind) (x:Operand)
 |idStr (x:Operand)
 |sliceStr (x:Operand) (lo hi:Option Operand)
 |sliceSl (size:Nat) (x:Operand) (lo hi:Option Operand)
 |makeFunc (fn:Fn) (first captured:List Operand)
 |iface (t:TypeId) (x:Operand)
 |build (zero:List Value) (parts:List (Nat × Nat × Operand))
 |load (x:Operand)
 |loadN (n:Nat) (x:Operand)
 |lenMap (x:Operand)
 |lookup (s:Bool) (ks:List CK) (zero:Value) (ok:Bool) (m k:Operand)
 |minmax (mx:Bool) (x:Operand) (ys:List Operand)
 |unNeg (xr:Bool) (x:Operand)
 |box (t:TypeId) (x:Operand)
 |alloc (t:TypeId) (zero:List Value)
 |store (x y:Operand)
 |storeN (n:Nat) (x y:Operand)
 |call (f:FuncId) (args:List Operand)
 |callV (x:Operand) (args:List Operand)
 |mapUpdate (s:Bool) (ks:List CK) (m k v:Operand)
 |mapEntry (s:Bool) (ks:List CK) (zero:Value) (m k:Operand)
 |entryStore (m st v:Operand)
 |delete (s:Bool) (ks:List CK) (m k:Operand)
 |makeMap
 |rangeMap (x:Operand)
 |nextMap (it:Operand)
 |entry (it:Operand)
 |buildSlice (t:TypeId) (ln:Nat) (zeros:List Value) (parts:List (Nat × Nat × Operand))
 |append (t:TypeId) (size bytes:Nat) (zero:List Value) (x y:Operand)
 |makeSlice (t:TypeId) (size bytes:Nat) (zero:List Value) (ln cap:Operand)
 |copy (size:Nat) (x y:Operand)
 |bytesOf (t:TypeId) (x:Operand)
 |strOf (x:Operand)
 |pcall (f:FuncId) (F:List Value→Option Value) (args:List Operand)
 |dead
 |capOf (x:Operand)
 |indexArr (size ln:Nat) (x i:Operand)
 |indexAgg (ln:Nat) (x i:Operand)
 |invoke (x:Operand) (name:String) (args:List Operand)
 |assert (ifc:Bool) (ts:List TypeId) (n:Nat) (zero:Value) (ok:Bool) (x:Operand)
 |eqIface (neg:Bool) (ts:List TypeId) (x y:Operand)
 |raw (o:Oper)
def qI (e:Operand→Value):List Value→List (Nat × Nat × Operand)→Option (List Value)
 |cs, []=>some cs
 |cs,(off,n,x)::r=>if (e x).cells.size=n then qI e (cs.take off++(e x).cells.toList++cs.drop (off+n)) r else none
def aIk (ifc:Bool) (ts:List TypeId) (n:Nat) (zero:Value) (ok:Bool):Value→Option Value
 |.nilIface=>if ok then some (.tuple #[zero,.bool false]) else none
 |.iface t v=>if ts.contains t then some (if ok then .tuple #[if ifc then .iface t v else v,.bool true] else if ifc then .iface t v else v)
  else if ok∧(ifc=true→t<n) then some (.tuple #[zero,.bool false]) else none
 |_=>none
def aA0 (ts:List TypeId):Value→Value→Option Bool
 |.nilIface,.iface _ _=>some false
 |.iface _ _,.nilIface=>some false
 |.iface t a,.iface u b=>if t=u then (if ts.contains t then kR .i a b else none) else some false
 |_,_=>none
def sY (P:Program) (t:TypeId) (v:Value) (name:String):Option (FuncId × Value):=
 match P.info? t,P.underlying t with
 |some i,some d=>match i.methods.find? (·.name==name) with
  |some m=>match m.path.toList,m.func,d with
   | [],some (f,true),.pointer _=>some (f,v)
   | [],some (_,true),_=>none
   | [],some (_,false),.pointer _=>none
   | [],some (f,false),_=>some (f,v)
   |_,_,_=>none
  |none=>none
 |_,_=>none
def aYb (P:Program) (t:TypeId) (v:Value) (name:String):Bool:=(sY P t v name).isSome
def KOp.fix (ρ : Env) : KOp → Option Value
  | .move x => some (ev ρ x)
  | .pick c a b => match ev ρ c with
    | .bool t => some (if t then ev ρ a else ev ρ b)
    | _ => none
  | .fieldAddr off x => match ev ρ x with
    | .pointer (some a) => some (.pointer (some (a.add off)))
    | _ => none
  | .indexAddr size x i => match ev ρ x, ev ρ i with
    | .slice (some a) ln _, .int _ n => if 0 ≤ n ∧ n < (ln : Int) then some (.pointer (some (a.add (n.toNat * size)))) else none
    | _, _ => none
  | .capOf x => match ev ρ x with
    | .slice _ _ c => some (.int .i64 c)
    | _ => none
  | .indexArr size ln x i => match ev ρ x, ev ρ i with
    | .pointer (some a), .int _ n => if 0 ≤ n ∧ n < (ln : Int) then some (.pointer (some (a.add (n.toNat * size)))) else none
    | _, _ => none
  | .indexAgg ln x i => match ev ρ x, ev ρ i with
    | .agg cs, .int _ n => if 0 ≤ n ∧ n < (ln : Int) then cs[n.toNat]? else none
    | _, _ => none
  | .field off x => match ev ρ x with
    | .agg cs => cs[off]?
    | _ => none
  | .fieldN off n x => match ev ρ x with
    | .agg cs => some (.agg (cs.extract off (off + n)))
    | _ => none
  | .extract i x => match ev ρ x with
    | .tuple vs => vs[i]?
    | _ => none
  | .indexStr x i => match ev ρ x, ev ρ i with
    | .string s, .int _ n => if 0 ≤ n then (s[n.toNat]?).map fun b => .int .u8 b.toNat else none
    | _, _ => none
  | .not x => match ev ρ x with
    | .bool b => some (.bool (!b))
    | _ => none
  | .nilCheck x => match ev ρ x with
    | .pointer (some a) => some (.pointer (some a))
    | _ => none
  | .nilM mo x => match ev ρ x with
    | .func (.method name) first captured => match (first[0]? : Option Value) with
      | some (.iface t v) => if mo t v name then some (.func (.method name) first captured) else none
      | _ => none
    | _ => none
  | .bin op x y => bM op (ev ρ x) (ev ρ y)
  | .minmax mx x ys => ys.foldl (fun acc y => acc.bind fun a => wC mx a (ev ρ y)) (some (ev ρ x))
  | .unNeg xr x => match ev ρ x with
    | .int k n => if xr then dG .xor k (if k.signed then -1 else k.max) n else dG .sub k 0 n
    | _ => none
  | .eqNil neg d x y => (aG9 d (ev ρ x) (ev ρ y)).map fun b => .bool (if neg then !b else b)
  | .eqAgg neg ks x y => match ev ρ x, ev ρ y with
    | .agg xs, .agg ys => (cU ks xs.toList ys.toList).map fun b => .bool (if neg then !b else b)
    | _, _ => none
  | .len true x => match ev ρ x with
    | .string s => some (.int .i64 s.size)
    | _ => none
  | .len false x => match ev ρ x with
    | .slice _ n _ => some (.int .i64 n)
    | _ => none
  | .conv k x => match ev ρ x with
    | .int _ n => some (.int k (k.wrap n))
    | _ => none
  | .idStr x => match ev ρ x with
    | .string s => some (.string s)
    | _ => none
  | .sliceStr x lo hi => match ev ρ x with
    | .string s =>
      (match hi with
       | none => some s.size
       | some h => match ev ρ h with
         | .int _ n => if 0 ≤ n ∧ n ≤ (s.size : Int) then some n.toNat else none
         | _ => none).bind fun h =>
      (match lo with
       | none => some 0
       | some l => match ev ρ l with
         | .int _ n => if 0 ≤ n ∧ n ≤ (h : Int) then some n.toNat else none
         | _ => none).map fun l => .string (s.extract l h)
    | _ => none
  | .sliceSl size x lo hi => match ev ρ x with
    | .slice a ln cap =>
      (match hi with
       | none => some ln
       | some h => match ev ρ h with
         | .int _ n => if 0 ≤ n ∧ n ≤ (cap : Int) then some n.toNat else none
         | _ => none).bind fun h =>
      (match lo with
       | none => some 0
       | some l => match ev ρ l with
         | .int _ n => if 0 ≤ n ∧ n ≤ (h : Int) then some n.toNat else none
         | _ => none).map fun l => .slice (if cap = l then a else a.map (fun ad : Addr => ad.add (l * size))) (h - l) (cap - l)
    | _ => none
  | .makeFunc fn first captured => some (.func fn (first.map (ev ρ)).toArray (captured.map (ev ρ)).toArray)
  | .iface t x => some (.iface t (ev ρ x))
  | .assert ifc ts n zero ok x => aIk ifc ts n zero ok (ev ρ x)
  | .eqIface neg ts x y => (aA0 ts (ev ρ x) (ev ρ y)).map fun b => .bool (if neg then !b else b)
  | .build zero parts =>
    (qI (ev ρ) zero parts).map fun cs => .agg cs.toArray
  | _ => none
def rdCells (w:World) (a:Addr):Nat→Nat→Option (List Value)
 |_,0=>some []
 |i,n+1=>(w.cell? (a.add i)).bind fun v=>(rdCells w a (i+1) n).map (v::·)
def KOp.rd (ρ:Env) (w:World):KOp→Option Value
 |.load x=>match ev ρ x with
  |.pointer (some a)=>w.cell? a
  |_=>none
 |.loadN n x=>match ev ρ x with
  |.pointer (some a)=>(rdCells w a 0 n).map fun l=>.agg l.toArray
  |_=>none
 |.pcall _ F args=>F (args.map (ev ρ))
 |.lenMap x=>match ev ρ x with
  |.map none=>some (.int .i64 0)
  |.map (some r)=>match w.heap[r]? with
   |some (.map es _)=>some (.int .i64 es.size)
   |_=>none
  |_=>none
 |.lookup s ks zero ok m k=>if aJh s ks (ev ρ k) then match ev ρ m with
  |.map none=>some (if ok then .tuple #[zero,.bool false] else zero)
  |.map (some r)=>match w.heap[r]? with
   |some (.map es _)=>(kC s ks (ev ρ k) es.toList 0).map fun f=>match f with
    |some (_,v)=>if ok then .tuple #[v,.bool true] else v
    |none=>if ok then .tuple #[zero,.bool false] else zero
   |_=>none
  |_=>none
  else none
 |o=>o.fix ρ
def KOp.isFix:KOp→Bool
 |.load ..|.loadN ..|.lenMap ..|.lookup ..|.box ..|.alloc ..|.store ..|.storeN ..|.call ..|.callV ..|.invoke ..|.raw ..|.dead|.pcall ..=>false
 |.mapUpdate ..|.mapEntry ..|.entryStore ..|.delete ..|.makeMap|.rangeMap ..|.nextMap ..|.entry ..|.buildSlice ..|.append ..|.makeSlice ..|.copy ..|.bytesOf ..|.strOf ..=>false
 |_=>true
def KOp.isStill:KOp→Bool
 |.load ..|.loadN ..|.lenMap ..|.lookup ..|.pcall ..=>true
 |o=>o.isFix
def KOp.isMaker:KOp→Bool
 |.box ..|.alloc ..=>true
 |_=>false
theorem KOp.rd_fix {ρ:Env} {w:World} {o:KOp} (h:o.isFix=true):o.rd ρ w=o.fix ρ:=by cases o<;>simp_all [isFix,rd]
def KOp.isPc:KOp→Bool
 |.pcall ..=>true
 |_=>false
def jU (w:World) (a:Addr):Nat→List Value→World
 |_, []=>w
 |i,v::vs=>jU (w.setCell (a.add i) v) a (i+1) vs
def aS9 (w:World) (a:Addr) (i n:Nat):Prop:=∀j,i≤j→j<i+n→(w.cell? (a.add j)).isSome=true∧w.frozen? (a.add j)=false
def bW (P:Program) (f:FuncId):Bool:=match P.funcs[f]? with
 |some fn=>fn.body.isSome&&!(fn.name== "runtime.NumGoroutine")
 |none=>false
def dY (w:World) (r:Nat) (o:Obj):World:={w with heap:=w.heap.setIfInBounds r o}
def jD (es:Array MapEntry) (clock:Nat) (k v:Value):Option (Nat × Value)→Array MapEntry × Nat
 |some (i,_)=>(es.modify i fun e=>{e with key:=k,val:=v},clock)
 |none=>(es.push {key:=k,val:=v,born:=clock},clock+1)
def mP (s:ByteArray):List Value:=s.data.toList.map fun b=>.int .u8 b.toNat
def zeros (zero:List Value):Nat→List Value
 |0=> []
 |n+1=>zero++zeros zero n
def cV (w:World) (size:Nat):Value→Option (Nat × List Value)
 |.slice (some a) n _=>(rdCells w a 0 (n*size)).map fun l=>(n,l)
 |.slice none n _=>some (n, [])
 |.string s=>some (s.size,mP s)
 |_=>none
def KOp.wp (P : Program) (ρ : Env) (w : World) (k : Value → World → Prop) : KOp → Prop
  | .box t x => k (.pointer (some ⟨w.heap.size, 0, none⟩)) (w.alloc (.cells (ev ρ x).cells t))
  | .alloc t zero => k (.pointer (some ⟨w.heap.size, 0, none⟩)) (w.alloc (.cells zero.toArray t))
  | .store x y => ∃ a, ev ρ x = .pointer (some a) ∧ (ev ρ y).oneCell' = true ∧ (w.cell? a).isSome = true ∧ w.frozen? a = false ∧ k undef (w.setCell a (ev ρ y))
  | .storeN n x y => ∃ a vs, ev ρ x = .pointer (some a) ∧ ev ρ y = .agg vs ∧ vs.size = n ∧ (∀ v ∈ vs.toList, v.oneCell' = true) ∧ aS9 w a 0 n ∧ k undef (jU w a 0 vs.toList)
  | .call f args => Calls P f (args.map (ev ρ)).toArray w fun e w' => ∃ v, e = .returned v ∧ k v w'
  | .callV x args => ∃ f first cap, ev ρ x = .func (.func f) first cap ∧ bW P f = true ∧ Calls P f (first ++ (args.map (ev ρ)).toArray ++ cap) w fun e w' => ∃ v, e = .returned v ∧ k v w'
  | .invoke x name args => ∃ t v f rv, ev ρ x = .iface t v ∧ sY P t v name = some (f, rv) ∧ bW P f = true ∧ Calls P f (rv :: args.map (ev ρ)).toArray w fun e w' => ∃ v, e = .returned v ∧ k v w'
  | .mapUpdate s ks m kk v => ∃ r es clock f, ev ρ m = .map (some r) ∧ w.heap[r]? = some (.map es clock) ∧ aJh s ks (ev ρ kk) = true ∧ kC s ks (ev ρ kk) es.toList 0 = some f ∧
      k undef (dY w r (.map (jD es clock (ev ρ kk) (ev ρ v) f).1 (jD es clock (ev ρ kk) (ev ρ v) f).2))
  | .mapEntry s ks zero m kk => ∃ r es clock f, ev ρ m = .map (some r) ∧ w.heap[r]? = some (.map es clock) ∧ aJh s ks (ev ρ kk) = true ∧ kC s ks (ev ρ kk) es.toList 0 = some f ∧
      match f with
      | some (i, v) => k (.tuple #[v, .int .i64 (((es[i]?).map (·.born)).getD 0 : Nat)]) (dY w r (.map (es.modify i fun e => { e with key := ev ρ kk }) clock))
      | none => k (.tuple #[zero, .int .i64 (clock : Nat)]) (dY w r (.map (es.push { key := ev ρ kk, val := zero, born := clock }) (clock + 1)))
  | .entryStore m st v => ∃ r es clock kd n i, ev ρ m = .map (some r) ∧ w.heap[r]? = some (.map es clock) ∧ ev ρ st = .int kd n ∧ es.findIdx? (fun e => (e.born : Int) == n) = some i ∧
      k undef (dY w r (.map (es.modify i fun e => { e with val := ev ρ v }) clock))
  | .delete s ks m kk => ∃ r es clock f, ev ρ m = .map (some r) ∧ w.heap[r]? = some (.map es clock) ∧ aJh s ks (ev ρ kk) = true ∧ kC s ks (ev ρ kk) es.toList 0 = some f ∧
      k (.tuple #[]) (dY w r (.map (match f with | some (i, _) => es.eraseIdxIfInBounds i | none => es) clock))
  | .makeMap => k (.map (some w.heap.size)) (w.alloc (.map #[] 0))
  | .rangeMap x => ∃ r es clock, ev ρ x = .map (some r) ∧ w.heap[r]? = some (.map es clock) ∧ k (.pointer (some ⟨w.heap.size, 0, none⟩)) (w.alloc (.mapIter (some r) clock #[] clock))
  | .nextMap it => ∃ b m since seen last es clock, ev ρ it = .pointer (some ⟨b, 0, none⟩) ∧ w.heap[b]? = some (.mapIter (some m) since seen last) ∧ w.heap[m]? = some (.map es clock) ∧
      (∀ e ∈ es, e.born < since) ∧ clock = last ∧ (seen.isEmpty = true ∨ es.isEmpty = true ∨ ∃ e ∈ es, e.born < last) ∧
      ((es.filter fun e => !seen.contains e.born).isEmpty = true → ∀ w', (w' = w ∨ w' = w.drew) → k (.tuple #[.bool false]) w') ∧
      ∀ e ∈ es.filter (fun e => !seen.contains e.born), ∀ w', (w' = w ∨ w' = w.drew) → k (.tuple #[.bool true, e.key, e.val]) (dY w' b (.mapIter (some m) since (seen.push e.born) clock))
  | .entry it => ∃ b m since seen stepped st es e, ev ρ it = .pointer (some ⟨b, 0, none⟩) ∧ w.heap[b]? = some (.mapIter (some m) since seen stepped) ∧ seen.back? = some st ∧ w.heap[m]? = some (.map es stepped) ∧
      es.find? (·.born == st) = some e ∧ k (.tuple #[e.key, e.val]) w
  | .buildSlice t ln zs ps => ∃ cs, qI (ev ρ) zs ps = some cs ∧ k (.slice (some ⟨w.heap.size, 0, none⟩) ln ln) (w.alloc (.cells cs.toArray t))
  | .append t size bytes zero x y => ∃ base sLen sCap n new, ev ρ x = .slice base sLen sCap ∧ cV w size (ev ρ y) = some (n, new) ∧
      ((sLen + n ≤ sCap → match base with
        | some a => (∀ v ∈ new, v.oneCell' = true) ∧ aS9 w (a.add (sLen * size)) 0 new.length ∧ k (.slice base (sLen + n) sCap) (jU w (a.add (sLen * size)) 0 new)
        | none => k (.slice base (sLen + n) sCap) w) ∧
       (sCap < sLen + n → ∃ old, cV w size (.slice base sLen sCap) = some (sLen, old) ∧ Builtin.nextslicecap (sLen + n) sCap * bytes ≤ 2 ^ 48 ∧
          ∀ c, sLen + n ≤ c → k (.slice (some ⟨w.heap.size, 0, none⟩) (sLen + n) c) (w.drew.alloc (.cells (old ++ new ++ zeros zero (c - (sLen + n))).toArray t))))
  | .makeSlice t _ bytes zero ln cap => ∃ kd ke l c, ev ρ ln = .int kd l ∧ ev ρ cap = .int ke c ∧ 0 ≤ l ∧ l ≤ c ∧ c ≤ 2 ^ 62 ∧ bytes * c ≤ 2 ^ 48 ∧
      k (.slice (some ⟨w.heap.size, 0, none⟩) l.toNat c.toNat) (w.alloc (.cells (zeros zero c.toNat).toArray t))
  | .copy size x y => ∃ base dLen cap n new, ev ρ x = .slice base dLen cap ∧ cV w size (ev ρ y) = some (n, new) ∧
      ((∃ a m c, ev ρ y = .slice a m c) ∨ size = 1) ∧ (∀ v ∈ new, v.oneCell' = true) ∧ (∀ a, base = some a → aS9 w a 0 (min n dLen * size)) ∧
      k (.int .i64 (min n dLen : Nat)) (match base with | some a => jU w a 0 (new.take (min n dLen * size)) | none => w)
  | .bytesOf t x => ∃ s, ev ρ x = .string s ∧ ∀ c, s.size ≤ c → ∀ w', (∀ b, b < w.heap.size → w'.heap[b]? = w.heap[b]?) → w'.heap.size = w.heap.size + 1 → w'.tape = w.tape → w'.os = w.os → w'.output = w.output →
      (∃ fz, w'.heap[w.heap.size]? = some (.cells (mP s ++ List.replicate (c - s.size) (Value.int .u8 0)).toArray t fz)) → k (.slice (some ⟨w.heap.size, 0, none⟩) s.size c) w'
  | .strOf x => ∃ a n c bs, ev ρ x = .slice a n c ∧ cV w 1 (ev ρ x) = some (n, List.map (fun b : UInt8 => Value.int .u8 b.toNat) bs) ∧ k (.string ⟨bs.toArray⟩) w
  | .dead => False
  | .raw o => match (execOp (ev ρ) o).run P w with
    | .ok (.value v) w' => k v w'
    | .ok .skip w' => k undef w'
    | .ok (.enter f args) w' => Calls P f args w' fun e w'' => ∃ v, e = .returned v ∧ k v w''
    | _ => False
  | o => ∃ v, o.rd ρ w = some v ∧ k v w
def sF (P:Program) (t:TypeId):Option (Option Nat):=
 match P.underlying t,P.info? t with
 |some (.struct _),some i|some (.array _ _),some i=>some (some i.size)
 |some _,some _=>some none
 |_,_=>none
def aNd (P:Program) (t:TypeId) (i:Nat):Option Field:=
 match P.underlying t with
 |some (.struct fs)=>fs[i]?
 |_=>none
def iL (P:Program):Nat→TypeId→Option (List CK)
 |0,_=>none
 |d+1,t=>match P.underlying t with
  |some .bool=>some [.b]
  |some (.int _)=>some [.i]
  |some .string=>some [.s]
  |some (.struct fs)=>if P.stoodInHeld t then none else
   fs.toList.foldl (fun acc f=>acc.bind fun ks=>(iL P d f.type).bind fun l=>if f.name≠ "_" ∧f.offset=ks.length∧(P.info? f.type).map (·.size)=some l.length then some (ks++l) else none) (some [])
  |_=>none
def places (P:Program):List Field→Option (List (Nat × Nat))
 | []=>some []
 |f::r=>(P.info? f.type).bind fun inf=>(places P r).map ((f.offset,inf.size)::·)
def placesOf (P:Program) (t:TypeId):Option (List (Nat × Nat)):=
 match P.underlying t with
 |some (.struct fs)=>places P fs.toList
 |_=>none
def pS (pl:List (Nat × Nat)):List (Nat × Operand)→Option (List (Nat × Nat × Operand))
 | []=>some []
 |(i,x)::r=>(pl[i]?).bind fun p=>(pS pl r).map ((p.1,p.2,x)::·)
def bE5 (P:Program) (t:TypeId):Option Nat:=
 match P.underlying t with
 |some (.array _ e)=>(P.info? e).map (·.size)
 |_=>none
def zeroOf (P:Program) (t:TypeId):Option Value:=(P.info? t).bind (·.zero)
def keyOf (P:Program) (t:TypeId):Option (Bool × List CK × TypeId):=
 match P.underlying t with
 |some (.map k e)=>(iL P 20 k).map fun ks=>((match P.underlying k with|some (.struct _)=>true|_=>false),ks,e)
 |_=>none
def bIt (want:Array (String × TypeId)) (got:Array Method):Bool:=want.toList.any fun (name,sig)=>!got.any fun m=>m.name==name&&m.sig==sig
theorem bDm {l:List String}:Instr.least l=none↔l= []:=by cases l<;>simp [Instr.least]
theorem aHg {want:Array (String × TypeId)} {got:Array Method}:Instr.missingMethod want got=none↔bIt want got=false:=by
 unfold Instr.missingMethod bIt
 generalize hl:((want.toList.filter fun (name,sig)=>!got.any fun m=>m.name==name&&m.sig==sig).map (·.1))=l
 have h1:(want.toList.any fun (name,sig)=>!got.any fun m=>m.name==name&&m.sig==sig)=false↔l= []:=by
  rw [←hl,List.map_eq_nil_iff,List.filter_eq_nil_iff,List.any_eq_false]
 rw [h1]
 dsimp only
 rw [List.partition_eq_filter_filter]
 dsimp only
 constructor
 ·intro h
  cases l with
  |nil=>rfl
  |cons a l=>
   grind [bDm]
 ·rintro rfl
  rfl
def aD6 (P:Program) (a:TypeId):List TypeId:=match P.underlying a with
 |some (.interface want)=>(List.range P.types.size).filter fun t=>match P.info? t with
  |some i=>!bIt want i.methods
  |none=>false
 |_=> []
def aI0 (P:Program):List TypeId:=(List.range P.types.size).filter fun t=>match P.info? t,P.underlying t with
 |some i,some (.int _)=>i.comparable
 |_,_=>false
class Quiet (P:Program) where
 tab:FuncId→Option (List Value→Option Value)
 ok:∀f F args v w,tab f=some F→F args=some v→Calls P f args.toArray w fun e w'=>e=.returned v∧w'=w
def aI (P:Program) [Quiet P] (o:Oper):KOp:=
 match o.op with
 |.move x|.assign x=>.move x
 |.pick c a b=>.pick c a b
 |.fieldAddr t x i=>match aNd P t i with
  |some f=>match P.info? f.type with
   |some inf=>if inf.size=0 then .raw o else .fieldAddr f.offset x
   |none=>.raw o
  |none=>.raw o
 |.indexAddr t x i=>match P.underlying t with
  |some (.slice e)=>match P.info? e with
   |some inf=>.indexAddr inf.size x i
   |none=>.raw o
  |some (.array n e)=>match P.info? e with
   |some inf=>.indexArr inf.size n x i
   |none=>.raw o
  |_=>.raw o
 |.field t x i=>match aNd P t i with
  |some f=>match sF P f.type with
   |some (some n)=>.fieldN f.offset n x
   |some none=>.field f.offset x
   |none=>.raw o
  |none=>.raw o
 |.extract x i=>.extract i x
 |.index t x i=>match P.underlying t with
  |some .string=>.indexStr x i
  |some (.array n e)=>match sF P e,P.info? e with
   |some none,some inf=>if inf.size=1 then .indexAgg n x i else .raw o
   |_,_=>.raw o
  |_=>.raw o
 |.unOp .not _ x=>.not x
 |.unOp .neg _ x=>.unNeg false x
 |.unOp .xor _ x=>.unNeg true x
 |.nilCheck x=>if Nat.beq o.type 0=true then .nilCheck x else match P.underlying o.type with
  |some (.func _ _ _)=>.nilM (aYb P) x
  |_=>.nilCheck x
 |.binOp op t x y _=>
  if op=.eql∨op=.neq then
   match P.underlying t with
   |some (.int _)|some .string=>.bin op x y
   |some (.struct _)=>if P.eqGuardType P.depth t then .raw o else (match iL P 20 t with|some n=>.eqAgg (op=.neq) n x y|none=>.raw o)
   |some d=>match eqK d with
    |some .iface=>if Region.isConst x||Region.isConst y then .eqNil (op=.neq) .iface x y else .eqIface (op=.neq) (aI0 P) x y
    |some k=>.eqNil (op=.neq) k x y
    |none=>.raw o
   |none=>.raw o
  else .bin op x y
 |.convert s d x=>match P.underlying s,P.underlying d with
  |some _,some (.int k)=>.conv k x
  |some .string,some .string=>.idStr x
  |some .string,some (.slice e)=>match P.underlying e with
   |some (.int .u8)=>.bytesOf e x
   |_=>.raw o
  |some (.slice e),some .string=>match P.underlying e with
   |some (.int .u8)=>.strOf x
   |_=>.raw o
  |_,_=>.raw o
 |.slice t x lo hi none=>match P.underlying t with
  |some .string=>.sliceStr x lo hi
  |some (.slice e)=>match P.info? e with
   |some inf=>.sliceSl inf.size x lo hi
   |none=>.raw o
  |_=>.raw o
 |.makeFunc fn f c=>.makeFunc fn f.toList c.toList
 |.makeInterface t x=>match P.underlying t with
  |some (.interface _)=>.raw o
  |some _=>.iface t x
  |none=>.raw o
 |.build t parts=>match P.info? t with
  |some inf=>match inf.zero with
   |some z=>match (placesOf P t).bind fun pl=>pS pl parts.toList with
    |some ps=>if ps.all (fun p=>p.1+p.2.1≤z.cells.size) then .build z.cells.toList ps else .raw o
    |none=>match bE5 P t with
     |some sz=>if parts.toList.all (fun p=>p.1*sz+sz≤z.cells.size) then .build z.cells.toList (parts.toList.map fun p=>(p.1*sz,sz,p.2)) else .raw o
     |none=>.raw o
   |none=>.raw o
  |none=>.raw o
 |.load t x=>match sF P t with
  |some (some n)=>.loadN n x
  |some none=>.load x
  |none=>.raw o
 |.box t x=>.box t x
 |.alloc t=>match P.info? t with
  |some inf=>match inf.zero with
   |some z=>.alloc t z.cells.toList
   |none=>.raw o
  |none=>.raw o
 |.store t x y=>match sF P t,P.info? t with
  |some (some n),_=>.storeN n x y
  |some none,some inf=>if inf.size=1 then .store x y else .raw o
  |_,_=>.raw o
 |.panic _=>.dead
 |.call {callee:=.value (.func f),args,..}=>if bW P f then (match Quiet.tab P f with
  |some F=>.pcall f F args.toList
  |none=>.call f args.toList) else .raw o
 |.call {callee:=.value (.tmp t),args,..}=>.callV (.tmp t) args.toList
 |.call {callee:=.invoke x name,args,..}=>.invoke x name args.toList
 |.typeAssert x _ a ok=>match P.underlying a,zeroOf P a with
  |some (.interface _),some z=>.assert true (aD6 P a) P.types.size z ok x
  |some _,some z=>.assert false [a] 0 z ok x
  |_,_=>.raw o
 |.call {callee:=.builtin .len,args,argTypes}=>match args.toList,argTypes.toList with
  | [x], [t]=>match P.underlying t with
   |some .string=>.len true x
   |some (.slice _)=>.len false x
   |some (.map _ _)=>.lenMap x
   |_=>.raw o
  |_,_=>.raw o
 |.lookup t m k ok=>match keyOf P t with
  |some (s,ks,e)=>match zeroOf P e with
   |some z=>.lookup s ks z ok m k
   |none=>.raw o
  |none=>.raw o
 |.mapUpdate t m k v=>match keyOf P t with
  |some (s,ks,_)=>.mapUpdate s ks m k v
  |none=>.raw o
 |.mapEntry t m k=>match keyOf P t with
  |some (s,ks,e)=>match zeroOf P e with
   |some z=>.mapEntry s ks z m k
   |none=>.raw o
  |none=>.raw o
 |.entryStore _ m s v=>.entryStore m s v
 |.makeMap _ none=>.makeMap
 |.range t x=>match P.underlying t with
  |some (.map _ _)=>.rangeMap x
  |_=>.raw o
 |.next it false=>.nextMap it
 |.entry it=>.entry it
 |.buildSlice t ln parts=>match P.underlying t with
  |some (.slice e)=>match P.info? e,zeroOf P e with
   |some inf,some z=>
    if ln*inf.size≤2^24∧z.cells.size=inf.size∧0<inf.size∧parts.toList.all (fun p=>(p.1+1)*inf.size≤ln*inf.size) then
     .buildSlice e ln (zeros z.cells.toList ln) (parts.toList.map fun p=>(p.1*inf.size,inf.size,p.2))
    else .raw o
   |_,_=>.raw o
  |_=>.raw o
 |.makeSlice t l c=>match P.underlying t with
  |some (.slice e)=>match P.info? e,zeroOf P e with
   |some inf,some z=>if z.cells.size=inf.size∧0<inf.size then .makeSlice e inf.size inf.bytes z.cells.toList l c else .raw o
   |_,_=>.raw o
  |_=>.raw o
 |.call {callee:=.builtin .delete,args,argTypes}=>match args.toList,argTypes.toList with
  | [m,k],t::_=>match keyOf P t with
   |some (s,ks,_)=>.delete s ks m k
   |none=>.raw o
  |_,_=>.raw o
 |.call {callee:=.builtin .cap,args,argTypes}=>match args.toList,argTypes.toList with
  | [x], [t]=>match P.underlying t with
   |some (.slice _)=>.capOf x
   |_=>.raw o
  |_,_=>.raw o
 |.call {callee:=.builtin .append,args,argTypes}=>match args.toList,argTypes.toList with
  | [x,y], [t,u]=>match P.underlying t,P.underlying u with
   |some (.slice _),some (.int _)=>.raw o
   |some (.slice e),some _=>match P.info? e,zeroOf P e with
    |some inf,some z=>if z.cells.size=inf.size∧0<inf.size∧inf.bytes≠0 then .append e inf.size inf.bytes z.cells.toList x y else .raw o
    |_,_=>.raw o
   |_,_=>.raw o
  |_,_=>.raw o
 |.call {callee:=.builtin .copy,args,argTypes}=>match args.toList,argTypes.toList with
  | [x,y],t::_=>match P.underlying t with
   |some (.slice e)=>match P.info? e with
    |some inf=>.copy inf.size x y
    |none=>.raw o
   |_=>.raw o
  |_,_=>.raw o
 |.call {callee:=.builtin .min,args,..}=>match args.toList with
  |x::ys=>.minmax false x ys
  | []=>.raw o
 |.call {callee:=.builtin .max,args,..}=>match args.toList with
  |x::ys=>.minmax true x ys
  | []=>.raw o
 |_=>.raw o
end
section
open Go
variable {P:Program} {ρ:Env} {w:World}
theorem aB {t:TypeId} {d:TypeDesc} (h:P.underlying t=some d) (w:World):(underlying t).run P w=.ok d w:=by
 show (match P.underlying t with|some d=>(pure d:Sem TypeDesc)|none=>stuck _).run P w=_
 rw [h];rfl
theorem bD {t:TypeId} {i:TypeInfo} (h:P.info? t=some i) (w:World):(typeInfo t).run P w=.ok i w:=by
 show (match P.info? t with|some d=>(pure d:Sem TypeInfo)|none=>stuck _).run P w=_
 rw [h];rfl
theorem bX {t:TypeId} {i:TypeInfo} (h:P.info? t=some i) (w:World):(sizeOf t).run P w=.ok i.size w:=by
 simp [sizeOf,bD h]
theorem aI9 {t:TypeId} {i:Nat} {f:Field} (h:aNd P t i=some f):∃fs,P.underlying t=some (.struct fs)∧fs[i]? =some f:=by
 grind [aNd]
theorem sH {t:TypeId} {n:Nat} (h:sF P t=some (some n)) (w:World):(isAgg t).run P w=.ok true w∧(sizeOf t).run P w=.ok n w:=by
 unfold sF at h
 split at h
 ·rename_i i h1 h2;cases h;exact ⟨by simp [isAgg,aB h1],bX h2 w⟩
 ·rename_i i h1 h2;cases h;exact ⟨by simp [isAgg,aB h1],bX h2 w⟩
 ·cases h
 grind
theorem rU {t:TypeId} (h:sF P t=some none) (w:World):(isAgg t).run P w=.ok false w:=by
 unfold sF at h
 split at h
 ·cases h
 ·cases h
 ·rename_i d i h3 h1 h2
  cases d<;>simp_all [isAgg,aB ‹P.underlying t=some _›]
 grind
theorem add_zero (a:Addr):a.add 0=a:=by rfl
theorem run_loadCellsFrom {a:Addr}:∀(n i:Nat) (acc:Array Value) (l:List Value),rdCells w a i n=some l→(loadCellsFrom a i n acc).run P w=.ok (acc++l.toArray) w
 |0,i,acc,l,h=>by
  simp only [rdCells,Option.some.injEq] at h
  subst h
  rfl
 |n+1,i,acc,l,h=>by
  simp only [rdCells,Option.bind_eq_some_iff,Option.map_eq_some_iff] at h
  obtain ⟨v,hv,r,hr,rfl⟩:=h
  have h2:=run_loadCellsFrom n (i+1) (acc.push v) r hr
  have h1:(load (a.add i)).run P w=.ok v w:=by simp [load,Sem.run,hv]
  simp only [loadCellsFrom,Sem.run_bind,h1,Result.andThen_ok,h2]
  simp
theorem aT5 (a b:ByteArray):(a.toList==b.toList)=decide (a=b):=by
 rw [Bool.eq_iff_iff,ByteArray.toList_eq,ByteArray.toList_eq];obtain ⟨⟨x⟩⟩:=a;obtain ⟨⟨y⟩⟩:=b;simp
theorem aUw (a b:Int):(a==b)=decide (a=b):=by grind
theorem bQe (a b:Int):(a !=b)= !decide (a=b):=by grind
theorem aTh {op : BinOp} {t : TypeId} {x y : Value} {v : Value} (h : bM op x y = some v) : (binOp op t x y).run P w = .ok v w := by
  unfold bM at h
  split at h
  · rename_i k a k' b
    by_cases hs : dK op = true
    · rw [if_pos hs] at h
      split at h
      · cases h
      · rename_i hb
        cases op <;> simp [dK] at hs <;> simp only [Option.some.injEq] at h <;> subst h <;> simp [binOp, Op.shift, hb]
    · rw [if_neg hs] at h
      split at h
      · rename_i hk
        subst hk
        cases op <;> simp only [dK, not_true_eq_false] at hs <;> simp only [dG] at h <;>
          first
          | (simp only [Option.some.injEq] at h; subst h; simp [binOp, Op.intArith, Op.intBits, Op.intCmp, aUw, bQe]; done)
          | (split at h
             · cases h
             · simp only [Option.some.injEq] at h; subst h; simp [binOp, Op.intDiv, *]; done)
          | cases h
      grind
  · rename_i a b
    cases op <;> simp only [bCa] at h <;>
      first
      | (simp only [Option.some.injEq] at h; subst h; simp [binOp, Op.stringOp, aT5]; done)
      | (by_cases hc : ((a.size + b.size : Nat) : Int) > IntKind.i64.max
         · rw [if_pos hc] at h; cases h
         · rw [if_neg hc] at h; simp only [Option.some.injEq] at h; subst h; simp only [binOp, Op.stringOp]; simp_all)
      | cases h
  grind
theorem wV {op:BinOp} {t:TypeId} {x y:Operand} {a b:Value} (h1:∀u v,¬(a=.nilIface∧b=.nilIface)∧¬(a=.agg u∧b=.agg v)):(eqGuard op t x y a b).run P w=.ok () w:=by
 unfold eqGuard
 cases op<;>(try rfl)<;>simp only [Bool.not_true,Bool.false_eq_true,if_false]<;>split
 all_goals first
  |exact absurd ⟨rfl,rfl⟩ (h1 #[] #[]).1
  |exact absurd ⟨rfl,rfl⟩ (h1 _ _).2
  |rfl
theorem aQu {op:BinOp} {t:TypeId} {x y:Operand} {a b:Value} (h1:¬(op=.eql∨op=.neq)):(eqGuard op t x y a b).run P w=.ok () w:=by
 unfold eqGuard
 simp_all
theorem aRo {op:BinOp} {t:TypeId} {x y:Operand} {a b:Value} (h1:(Region.isConst x||Region.isConst y)=true) (h2:∀u v,¬(a=.agg u∧b=.agg v)):(eqGuard op t x y a b).run P w=.ok () w:=by
 unfold eqGuard
 cases op<;>(try rfl)<;>simp only [Bool.not_true,Bool.false_eq_true,if_false]<;>split
 all_goals first
  |exact absurd ⟨rfl,rfl⟩ (h2 _ _)
  |rfl
  |(cases x<;>cases y<;>simp [Region.isConst] at h1<;>rfl)
theorem aVl {t:TypeId} {d:TypeDesc} {q:EqK} (hd:P.underlying t=some d) (hq:eqK d=some q) {x y:Value} {r:Bool} (h:aG9 q x y=some r) (n:Nat):(Op.equalIn (n+1) t x y).run P w=.ok r w:=by
 unfold aG9 at h
 simp only [Op.equalIn,Sem.run_bind,aB hd w,Result.andThen_ok]
 split at h<;>first|(cases h;done)|(simp only [Option.some.injEq] at h;subst h;cases d<;>simp only [eqK,Option.some.injEq,reduceCtorEq] at hq<;>first|(simp;done)|skip)
theorem aX9 {t:TypeId} {d:TypeDesc} {q:EqK} (hd:P.underlying t=some d) (hq:eqK d=some q) {x y:Value} {r:Bool} (h:aG9 q x y=some r):(Op.equal t x y).run P w=.ok r w:=
 aVl hd hq h 9999
theorem aDe:∀(k1 k2:List CK) (a b c d:List Value) (r:Bool),a.length=k1.length→c.length=k1.length→cU (k1++k2) (a++b) (c++d)=some r→∃r1 r2,cU k1 a c=some r1∧cU k2 b d=some r2∧r=(r1&&r2)
 | [],k2, [],b, [],d,r,_,_,h=>⟨true,r,rfl,h,by simp⟩
 |k::k1,k2,x::a,b,y::c,d,r,hl,hl',h=>by
  simp only [List.cons_append,cU,Option.bind_eq_some_iff,Option.map_eq_some_iff] at h
  obtain ⟨e,he,r',hr',rfl⟩:=h
  obtain ⟨r1,r2,h1,h2,rfl⟩:=aDe k1 k2 a b c d r' (by simp_all) (by simp_all) hr'
  grind [cU]
theorem mQ:∀(ks:List CK) (a b:List Value) (r:Bool),cU ks a b=some r→a.length=ks.length∧b.length=ks.length
 | [], [], [],_,_=>⟨rfl,rfl⟩
 |k::ks,x::a,y::b,r,h=>by
  simp only [cU,Option.bind_eq_some_iff,Option.map_eq_some_iff] at h
  obtain ⟨e,he,r',hr',rfl⟩:=h
  have:=mQ ks a b r' hr'
  simp [this]
 | [], [],_::_,_,h=>by simp [cU] at h
 | [],_::_,_,_,h=>by simp [cU] at h
 |_::_, [],_,_,h=>by simp [cU] at h
 |_::_,_::_, [],_,h=>by simp [cU] at h
def mD (P:Program) (t:TypeId) (cs:List Value):Value:=
 match P.underlying t with
 |some (.struct _)=>.agg cs.toArray
 |_=>cs.getD 0 undef
theorem fR {t:TypeId} {fs:Array Field} (h:P.underlying t=some (.struct fs)) (cs:List Value):mD P t cs=.agg cs.toArray:=by grind [mD]
theorem aJx {t:TypeId} {off:Nat} {cs:Array Value} {dd:TypeDesc} (hd:P.underlying t=some dd) (h1:∀f,dd≠.struct f) (h2:∀a b,dd≠.array a b) (hl:off+1≤cs.size):
  (part t cs off).run P w=.ok (mD P t ((cs.toList.drop off).take 1)) w:=by
 have hlt:off<cs.size:=by omega
 have hag:(isAgg t).run P w=.ok false w:=by
  simp only [isAgg,Sem.run_bind,aB hd w,Result.andThen_ok]
  cases dd<;>first|rfl|exact absurd rfl (h1 _)|exact absurd rfl (h2 _ _)
 simp only [part,Sem.run_bind,hag,Result.andThen_ok,Bool.false_eq_true,if_false,Array.getElem?_eq_getElem hlt]
 have hv:mD P t ((cs.toList.drop off).take 1)=cs[off]:=by
  unfold mD
  rw [hd]
  cases dd<;>first|exact absurd rfl (h1 _)|(simp [List.getElem?_drop,hlt])
 simp [*]
theorem aF9 {t:TypeId} {ks:List CK} {off:Nat} {d:Nat} {cs:Array Value} (hf:iL P d t=some ks) (hs:(P.info? t).map (·.size)=some ks.length) (hl:off+ks.length≤cs.size):
  (part t cs off).run P w=.ok (mD P t ((cs.toList.drop off).take ks.length)) w:=by
 cases d with
 |zero=>cases hf
 |succ d=>
  obtain ⟨i,hi,hik⟩:=Option.map_eq_some_iff.1 hs
  simp only [iL] at hf
  split at hf
  ·injection hf with hf;subst hf;exact aJx ‹_› (by simp) (by simp) hl
  ·injection hf with hf;subst hf;exact aJx ‹_› (by simp) (by simp) hl
  ·injection hf with hf;subst hf;exact aJx ‹_› (by simp) (by simp) hl
  ·rename_i fs hu
   have hag:(isAgg t).run P w=.ok true w:=by simp [isAgg,aB hu]
   simp only [part,Sem.run_bind,hag,Result.andThen_ok,if_true,bX hi]
   have hv:mD P t ((cs.toList.drop off).take ks.length)=.agg (cs.extract off (off+i.size)):=by
    rw [fR hu,hik]
    congr 1
    apply Array.ext'
    simp [Array.toList_extract,List.extract_eq_take_drop]
   simp [*]
  grind
def xC (P:Program) (d:Nat) (fs:List Field) (ks:Option (List CK)):Option (List CK):=
 fs.foldl (fun acc f=>acc.bind fun ks=>(iL P d f.type).bind fun l=>if f.name≠ "_" ∧f.offset=ks.length∧(P.info? f.type).map (·.size)=some l.length then some (ks++l) else none) ks
theorem aCd {d:Nat}:∀(fs:List Field),xC P d fs none=none
 | []=>rfl
 |f::fs=>by unfold xC;simp only [List.foldl_cons,Option.bind_none];exact aCd fs
theorem aBv {d:Nat} {f:Field} {fs:List Field} {ks out:List CK} (h:xC P d (f::fs) (some ks)=some out):
  ∃l,iL P d f.type=some l∧f.name≠ "_" ∧f.offset=ks.length∧(P.info? f.type).map (·.size)=some l.length∧xC P d fs (some (ks++l))=some out:=by
 unfold xC at h
 simp only [List.foldl_cons,Option.bind_some] at h
 cases hl:iL P d f.type with
 |none=>rw [hl] at h;simp only [Option.bind_none] at h;exact absurd ((aCd (d:=d) fs).symm.trans h) (by simp)
 |some l=>
  rw [hl] at h
  simp only [Option.bind_some] at h
  split at h
  ·rename_i hc;exact ⟨l,rfl,hc.1,hc.2.1,hc.2.2,h⟩
  ·exact absurd ((aCd (d:=d) fs).symm.trans h) (by simp)
theorem aGk {d:Nat}:∀(fs:List Field) (ks out:List CK),xC P d fs (some ks)=some out→∃l,out=ks++l
 | [],ks,out,h=>⟨[],by grind [xC]⟩
 |f::fs,ks,out,h=>by
  obtain ⟨l,_,_,_,_,h2⟩:=aBv h
  obtain ⟨l2,rfl⟩:=aGk fs _ _ h2
  simp
theorem aM9:∀(d:Nat) (t:TypeId) (ks:List CK),iL P d t=some ks→∀(xs ys:List Value) (r:Bool),cU ks xs ys=some r→∀m,(Op.equalIn (d+m) t (mD P t xs) (mD P t ys)).run P w=.ok r w
 |0,_,_,h,_,_,_,_,_=>by cases h
 |d+1,t,ks,h,xs,ys,r,hr,m=>by
  simp only [iL] at h
  rw [show d+1+m=(d+m)+1 from by omega]
  have one:∀(c:CK),ks= [c]→∃x y,xs= [x]∧ys= [y]∧kR c x y=some r:=by
   intro c hc
   subst hc
   obtain ⟨h1,h2⟩:=mQ _ _ _ _ hr
   match xs,ys,h1,h2 with
   | [x], [y],_,_=>
    simp only [cU,Option.map_some,Bool.and_true,Option.bind_eq_some_iff,Option.some.injEq] at hr
    simp_all
  split at h
  ·rename_i hu
   obtain ⟨x,y,rfl,rfl,hb⟩:=one .b (by simp_all)
   simp only [mD,hu,List.getD_cons_zero]
   unfold kR at hb
   grind [run_equalIn_bool']
  ·rename_i kk hu
   obtain ⟨x,y,rfl,rfl,hb⟩:=one .i (by simp_all)
   simp only [mD,hu,List.getD_cons_zero]
   unfold kR at hb
   split at hb<;>simp_all
   obtain ⟨rfl,rfl⟩:=hb;rw [run_equalIn_int w _ _ _ _ _ _ hu,aUw]
  ·rename_i hu
   obtain ⟨x,y,rfl,rfl,hb⟩:=one .s (by simp_all)
   simp only [mD,hu,List.getD_cons_zero]
   unfold kR at hb
   grind [run_equalIn_string,aT5]
  ·rename_i fs hu
   split at h
   ·cases h
   ·rename_i hst
    rw [fR hu,fR hu]
    have hfo:P.fieldsOf t=fs:=by unfold Program.fieldsOf;rw [hu]
    rw [run_equalIn_struct w _ t _ _ (by simp [*]) (by simp [*]),hfo]
    have key:∀(l:List Field) (k1 out:List CK) (x1 x2 y1 y2:List Value) (r2:Bool),xC P d l (some k1)=some out→x1.length=k1.length→y1.length=k1.length→
      cU (out.drop k1.length) x2 y2=some r2→(Op.eqFields (d+m) (x1++x2).toArray (y1++y2).toArray l).run P w=.ok r2 w:=by
     intro l
     induction l with
     |nil=>
      intro k1 out x1 x2 y1 y2 r2 hf hx hy hc
      simp only [xC,List.foldl_nil,Option.some.injEq] at hf
      subst hf
      rw [List.drop_length] at hc
      obtain ⟨h1,h2⟩:=mQ _ _ _ _ hc
      obtain rfl:=List.length_eq_zero_iff.1 h1
      obtain rfl:=List.length_eq_zero_iff.1 h2
      simp only [cU,Option.some.injEq] at hc
      subst hc
      rfl
     |cons f l ihl=>
      intro k1 out x1 x2 y1 y2 r2 hf hx hy hc
      obtain ⟨lk,hlk,hn,ho,hsz,hrest⟩:=aBv hf
      obtain ⟨tail,hout⟩:=aGk l _ _ hrest
      have hd:out.drop k1.length=lk++tail:=by rw [hout];simp
      rw [hd] at hc
      obtain ⟨hlx,hly⟩:=mQ _ _ _ _ hc
      simp only [List.length_append] at hlx hly
      have ex:x2=x2.take lk.length++x2.drop lk.length:=(List.take_append_drop _ _).symm
      have ey:y2=y2.take lk.length++y2.drop lk.length:=(List.take_append_drop _ _).symm
      have tx:(x2.take lk.length).length=lk.length:=by simp;omega
      have ty:(y2.take lk.length).length=lk.length:=by simp;omega
      rw [ex,ey] at hc
      obtain ⟨r1,r3,hc1,hc2,rfl⟩:=aDe lk tail _ _ _ _ r2 tx ty hc
      have px:(part f.type (x1++x2).toArray f.offset).run P w=.ok (mD P f.type (x2.take lk.length)) w:=by
       have:=aF9 (w:=w) (off:=f.offset) (cs:=(x1++x2).toArray) hlk hsz (by simp;omega)
       rw [this,ho];simp [←hx]
      have py:(part f.type (y1++y2).toArray f.offset).run P w=.ok (mD P f.type (y2.take lk.length)) w:=by
       have:=aF9 (w:=w) (off:=f.offset) (cs:=(y1++y2).toArray) hlk hsz (by simp;omega)
       rw [this,ho];simp [←hy]
      have pe:=aM9 d f.type lk hlk _ _ r1 hc1 m
      simp only [Op.eqFields,hn,ne_eq,not_false_eq_true,if_true,Sem.run_bind,px,Result.andThen_ok,py,pe]
      cases r1 with
      |false=>simp
      |true=>
       simp only [Bool.not_true,Bool.false_eq_true,if_false,Bool.true_and]
       have:=ihl (k1++lk) out (x1++x2.take lk.length) (x2.drop lk.length) (y1++y2.take lk.length) (y2.drop lk.length) r3 hrest (by simp [hx];omega) (by simp [hy];omega) (by rw [hout];simpa using hc2)
       simpa [List.append_assoc] using this
    exact key fs.toList [] ks [] xs [] ys r h rfl rfl (by simp [*])
  grind
theorem aCe:∀(ks:List CK) (l:List Value),jS ks l=true→l.length=ks.length
 | [], [],_=>rfl
 |_::ks,_::l,h=>by
  simp only [jS,Bool.and_eq_true] at h
  simp [aCe ks l h.2]
 | [],_::_,h=>by simp [jS] at h
 |_::_, [],h=>by simp [jS] at h
theorem aCh:∀(k1 k2:List CK) (a b:List Value),a.length=k1.length→jS (k1++k2) (a++b)=true→jS k1 a=true∧jS k2 b=true
 | [],k2, [],b,_,h=>⟨rfl,h⟩
 |k::k1,k2,x::a,b,hl,h=>by
  simp only [List.cons_append,jS,Bool.and_eq_true] at h ⊢
  have:=aCh k1 k2 a b (by simpa using hl) h.2
  exact ⟨⟨h.1,this.1⟩,this.2⟩
theorem xA {em:Bool}:∀(d:Nat) (t:TypeId) (ks:List CK),iL P d t=some ks→∀(xs:List Value),jS ks xs=true→∀m,(Instr.checkKey em (d+m) t (mD P t xs)).run P w=.ok () w
 |0,_,_,h,_,_,_=>by cases h
 |d+1,t,ks,h,xs,hr,m=>by
  simp only [iL] at h
  rw [show d+1+m=(d+m)+1 from by omega]
  have one:∀(c:CK),ks= [c]→∃x,xs= [x]∧bIs c x=true:=by
   intro c hc
   subst hc
   have h1:=aCe _ _ hr
   match xs,h1 with
   | [x],_=>exact ⟨x,rfl,by grind [jS]⟩
  split at h
  ·rename_i hu
   simp [Instr.checkKey,aB hu]
  ·rename_i hu
   simp [Instr.checkKey,aB hu]
  ·rename_i hu
   simp [Instr.checkKey,aB hu]
  ·rename_i fs hu
   split at h
   ·cases h
   ·rw [fR hu]
    have key:∀(l:List Field) (k1 out:List CK) (x1 x2:List Value),xC P d l (some k1)=some out→x1.length=k1.length→
      jS (out.drop k1.length) x2=true→(forIn (m:=Sem) l PUnit.unit fun f _=>do
       if f.name≠ "_" then Instr.checkKey em (d+m) f.type (←part f.type (x1++x2).toArray f.offset)
       pure (ForInStep.yield PUnit.unit)).run P w=.ok PUnit.unit w:=by
     intro l
     induction l with
     |nil=>simp
     |cons f l ihl=>
      intro k1 out x1 x2 hf hx hc
      obtain ⟨lk,hlk,hn,ho,hsz,hrest⟩:=aBv hf
      obtain ⟨tail,hout⟩:=aGk l _ _ hrest
      have hd:out.drop k1.length=lk++tail:=by rw [hout];simp
      rw [hd] at hc
      have hlx:=aCe _ _ hc
      simp only [List.length_append] at hlx
      have ex:x2=x2.take lk.length++x2.drop lk.length:=(List.take_append_drop _ _).symm
      have tx:(x2.take lk.length).length=lk.length:=by simp;omega
      rw [ex] at hc
      obtain ⟨hc1,hc2⟩:=aCh lk tail _ _ tx hc
      have px:(part f.type (x1++x2).toArray f.offset).run P w=.ok (mD P f.type (x2.take lk.length)) w:=by
       have:=aF9 (w:=w) (off:=f.offset) (cs:=(x1++x2).toArray) hlk hsz (by grind)
       rw [this,ho];simp [←hx]
      have pe:=xA (em:=em) d f.type lk hlk _ hc1 m
      have ih:=ihl (k1++lk) out (x1++x2.take lk.length) (x2.drop lk.length) hrest (by simp [hx];omega) (by rw [hout];simpa using hc2)
      have e1:x1++x2.take lk.length++x2.drop lk.length=x1++x2:=by rw [List.append_assoc,←ex]
      rw [e1] at ih
      rw [List.forIn_cons]
      simp only [Sem.run_bind,hn,ne_eq,not_false_eq_true,if_true,px,Result.andThen_ok,pe,Sem.run_pure,ih]
    have:=key fs.toList [] ks [] xs h rfl (by simp [*])
    simp only [Instr.checkKey,Sem.run_bind,aB hu,Result.andThen_ok]
    simp_all
  grind
def xM (P:Program) (t:TypeId):Bool:=match P.underlying t with|some (.struct _)=>true|_=>false
theorem aJu {d:Nat} {t:TypeId} {ks:List CK} (h:iL P d t=some ks) (hs:xM P t=false):(P.underlying t=some .bool∧ks= [.b])∨(∃k,P.underlying t=some (.int k)∧ks= [.i])∨(P.underlying t=some .string∧ks= [.s]):=by
 cases d with
 |zero=>cases h
 |succ d=>
  grind [iL,xM]
theorem aSo {t:TypeId} {ks:List CK} (h:iL P 20 t=some ks) {a b:Value} {r:Bool} (he:aBf (xM P t) ks a b=some r):(Op.equal t a b).run P w=.ok r w:=by
 unfold aBf at he
 split at he
 ·rename_i hs
  split at he
  ·rename_i xs ys
   have hu:∃fs,P.underlying t=some (.struct fs):=by
    unfold xM at hs;split at hs
    ·simp [*]
    ·cases hs
   obtain ⟨fs,hu⟩:=hu
   have:=aM9 (w:=w) 20 t ks h _ _ r he 9980
   rw [fR hu,fR hu] at this
   exact this
  grind
 ·rename_i hs
  have hv:∀x:Value,mD P t [x]=x:=by
   intro x
   rcases aJu h (by simp [*]) with ⟨hu,_⟩|⟨k,hu,_⟩|⟨hu,_⟩<;>simp [mD,hu]
  have:=aM9 (w:=w) 20 t ks h _ _ r he 9980
  rw [hv,hv] at this
  exact this
theorem xI {em:Bool} {t:TypeId} {ks:List CK} (h:iL P 20 t=some ks) {a:Value} (he:aJh (xM P t) ks a=true):(Instr.checkKey em 10000 t a).run P w=.ok () w:=by
 unfold aJh at he
 split at he
 ·rename_i hs
  split at he
  ·rename_i xs
   have hu:∃fs,P.underlying t=some (.struct fs):=by
    unfold xM at hs;split at hs
    ·simp [*]
    ·cases hs
   obtain ⟨fs,hu⟩:=hu
   have:=xA (w:=w) (em:=em) 20 t ks h _ he 9980
   rw [fR hu] at this
   omega
  grind
 ·rename_i hs
  have hv:∀x:Value,mD P t [x]=x:=by
   intro x
   rcases aJu h (by simp [*]) with ⟨hu,_⟩|⟨k,hu,_⟩|⟨hu,_⟩<;>simp [mD,hu]
  have:=xA (w:=w) (em:=em) 20 t ks h _ he 9980
  simp_all
theorem aQr {t:TypeId} {ks:List CK} (h:iL P 20 t=some ks) {k:Value}:∀(es:List MapEntry) (i:Nat) (r:Option (Nat × Value)),kC (xM P t) ks k es i=some r→(Instr.findAsking t k es i).run P w=.ok r w
 | [],i,r,hf=>by simp only [kC,Option.some.injEq] at hf;subst hf;rfl
 |e::es,i,r,hf=>by
  simp only [kC] at hf
  split at hf
  ·rename_i he
   simp only [Option.some.injEq] at hf;subst hf
   simp [Instr.findAsking,aSo h he]
  ·rename_i he
   simp [Instr.findAsking,aSo h he,aQr h es (i+1) r hf]
  ·cases hf
theorem aAm {d:TypeDesc} {c:CK} (hc:(d=.bool∧c=.b)∨(∃k,d=.int k∧c=.i)∨(d=.string∧c=.s)) {k:Value}:∀(es:List MapEntry) (i:Nat) (r:Option (Nat × Value)),kC false [c] k es i=some r→Instr.findNow d k es i=some r
 | [],i,r,hf=>by simp only [kC,Option.some.injEq] at hf;subst hf;rfl
 |e::es,i,r,hf=>by
  simp only [kC] at hf
  have hsame:∀b,aBf false [c] k e.key=some b→Instr.sameNow d k e.key=some b:=by
   intro b hb
   simp only [aBf,Bool.false_eq_true,if_false,cU,Option.map_some,Bool.and_true] at hb
   generalize e.key=y at hb
   rcases hc with ⟨rfl,rfl⟩|⟨q,rfl,rfl⟩|⟨rfl,rfl⟩
   ·unfold kR at hb;grind [Instr.sameNow]
   ·unfold kR at hb;split at hb<;>simp_all [Instr.sameNow,aUw]
   ·unfold kR at hb
    grind [Instr.sameNow,beq_toListBytes,aT5]
  split at hf
  ·rename_i he
   simp only [Instr.findNow,hsame _ he];exact hf
  ·rename_i he
   simp only [Instr.findNow,hsame _ he];exact aAm hc es (i+1) r hf
  ·cases hf
theorem aPe {fs:Array Field} {k:Value} {e:MapEntry} {es:List MapEntry}:Instr.findNow (.struct fs) k (e::es) 0=none:=by
 rfl
theorem xR {t:TypeId} {ks:List CK} (h:iL P 20 t=some ks) {k:Value} {es:List MapEntry} {r:Option (Nat × Value)} (hf:kC (xM P t) ks k es 0=some r):(Instr.findKey t k es).run P w=.ok r w:=by
 unfold Instr.findKey
 by_cases hs:xM P t=true
 ·have hu:∃fs,P.underlying t=some (.struct fs):=by
   unfold xM at hs;split at hs
   ·simp [*]
   ·cases hs
  obtain ⟨fs,hu⟩:=hu
  simp only [Sem.run_bind,aB hu,Result.andThen_ok]
  cases es with
  |nil=>simp only [kC,Option.some.injEq] at hf;subst hf;rfl
  |cons e es=>
   grind [aPe,aQr]
 ·have hs':xM P t=false:=by simpa using hs
  rw [hs'] at hf
  rcases aJu h hs' with ⟨hu,rfl⟩|⟨q,hu,rfl⟩|⟨hu,rfl⟩
  ·simp [aB hu,aAm (.inl ⟨rfl,rfl⟩) es 0 r hf]
  ·simp [aB hu,aAm (.inr (.inl ⟨q,rfl,rfl⟩)) es 0 r hf]
  ·simp [aB hu,aAm (.inr (.inr ⟨rfl,rfl⟩)) es 0 r hf]
theorem aKz {c:CK} {a b:Value} (h:kR c a b=some true) (n:Nat):Instr.sameBits n a b=true:=by
 unfold kR at h
 grind [Instr.sameBits,beq_toListBytes]
theorem aS5 {c:CK} {a b:Value} (h:kR c a b=some true):a=b:=by
 unfold kR at h
 grind
theorem aA3:∀(ks:List CK) (a b:List Value) (n:Nat),cU ks a b=some true→a=b∧((a.zip b).all fun (x,y)=>Instr.sameBits n x y)=true
 | [], [], [],_,_=>⟨rfl,rfl⟩
 |c::ks,x::a,y::b,n,h=>by
  simp only [cU,Option.bind_eq_some_iff,Option.map_eq_some_iff] at h
  obtain ⟨e,he,r,hr,hb⟩:=h
  simp only [Bool.and_eq_true] at hb
  obtain ⟨rfl,rfl⟩:=hb
  have h1:=aKz he n
  have h2:=aS5 he
  obtain ⟨h3,h4⟩:=aA3 ks a b n hr
  simp_all
 | [], [],_::_,_,h=>by simp [cU] at h
 | [],_::_,_,_,h=>by simp [cU] at h
 |_::_, [],_,_,h=>by simp [cU] at h
 |_::_,_::_, [],_,h=>by simp [cU] at h
theorem aOo {s:Bool} {ks:List CK} {a b:Value} (h:aBf s ks a b=some true):a=b∧∀n,Instr.sameBits (n+1) a b=true:=by
 unfold aBf at h
 split at h
 ·split at h
  ·rename_i xs ys
   have h1:=mQ _ _ _ _ h
   have h3:=(aA3 ks _ _ 0 h).1
   refine ⟨by rw [Array.toList_inj.1 h3],fun n=>?_⟩
   have h2:=(aA3 ks _ _ n h).2
   simp only [Array.length_toList] at h1
   simp only [Instr.sameBits,h1.1,h1.2,beq_self_eq_true,Bool.true_and]
   exact h2
  grind
 ·obtain ⟨h1,h2⟩:=mQ _ _ _ _ h
  match ks,h1 with
  | [c],_=>
   simp only [cU,Option.map_some,Bool.and_true,Option.bind_eq_some_iff,Option.some.injEq] at h
   obtain ⟨e,he,rfl⟩:=h
   grind [aS5,aKz]
theorem aP0 {s:Bool} {ks:List CK} {k:Value}:∀(es:List MapEntry) (i j:Nat) (v:Value),kC s ks k es i=some (some (j,v))→i≤j∧∃e,es[j - i]? =some e∧e.key=k∧e.val=v∧aBf s ks k e.key=some true
 | [],i,j,v,h=>by simp [kC] at h
 |e::es,i,j,v,h=>by
  simp only [kC] at h
  split at h
  ·rename_i he
   simp only [Option.some.injEq,Prod.mk.injEq] at h
   obtain ⟨rfl,rfl⟩:=h
   exact ⟨Nat.le_refl _,e,by simp,(aOo he).1.symm,rfl,he⟩
  ·rename_i he
   obtain ⟨h1,e',h2,h3⟩:=aP0 es (i+1) j v h
   grind
  grind
theorem aUn {s:Bool} {ks:List CK} {a b:Value} (h:aBf s ks a b=some true):(Instr.keyThatStays b a).run P w=.ok a w:=by
 obtain ⟨rfl,h2⟩:=aOo h
 unfold Instr.keyThatStays
 simp [*]
end
section
open Go
variable {P:Program} {ρ:Env} {w:World}
theorem fO {o:Oper} {s:Sem Value} {v:Value} (h:execOp (ev ρ) o=(do pure (Next.value (←s)))) (hs:s.run P w=.ok v w):(execOp (ev ρ) o).run P w=.ok (.value v) w:=by
 simp [*]
theorem kY (a:Addr):(Instr.sureAddr (.pointer (some a))).run P w=.ok a w:=rfl
theorem aYa (f:Operand→Value) (a:Array Operand):a.map f=(a.toList.map f).toArray:=by grind
theorem aCc {x:Value} {k:IntKind} {n:Int} {y:Nat} {c:BoundsCode} (hx:x=.int k n) (h:0≤n∧n≤(y:Int)):(Instr.sliceBound x y c).run P w=.ok n.toNat w:=by
 subst hx
 simp [Instr.sliceBound,asIntOf,h]
theorem aN7 {lo hi:Option Operand} (isSl:Bool) (ln cap:Nat) (h l:Nat)
  (e1:(match hi with|none=>some ln|some h=>match ev ρ h with|.int _ n=>if 0≤n∧n≤(cap:Int) then some n.toNat else none|_=>none)=some h)
  (e2:(match lo with|none=>some 0|some l=>match ev ρ l with|.int _ n=>if 0≤n∧n≤(h:Int) then some n.toNat else none|_=>none)=some l):
  (Instr.sliceBounds isSl ln cap (lo.map (ev ρ)) (hi.map (ev ρ)) none).run P w=.ok (l,h,cap) w:=by
 have r1:∀c,((match hi.map (ev ρ) with|some v=>Instr.sliceBound v cap c|none=>pure ln:Sem Nat)).run P w=.ok h w:=by
  intro c
  cases hi with
  |none=>simp_all
  |some hh=>
   grind [aCc]
 have r2:∀c,((match lo.map (ev ρ) with|some v=>Instr.sliceBound v h c|none=>pure 0:Sem Nat)).run P w=.ok l w:=by
  intro c
  cases lo with
  |none=>simp_all
  |some hh=>
   grind [aCc]
 have r1':=r1 (if isSl=true then .sliceAcap else .sliceAlen)
 have r2':=r2 .sliceB
 unfold Instr.sliceBounds
 cases hi<;>cases lo<;>simp_all
theorem aV8:∀(xs:List Value) (k off:Nat) (cs:Array Value),off+k+xs.length≤cs.size→
  ((xs.zipIdx k).foldl (fun (cs:Array Value) (cj:Value × Nat)=>cs.setIfInBounds (off+cj.2) cj.1) cs).toList=cs.toList.take (off+k)++xs++cs.toList.drop (off+k+xs.length)
 | [],k,off,cs,h=>by simp
 |x::xs,k,off,cs,h=>by
  simp only [List.length_cons] at h
  simp only [List.zipIdx_cons,List.foldl_cons]
  rw [aV8 xs (k+1) off _ (by grind)]
  have hlt:off+k<cs.toList.length:=by simp;omega
  rw [Array.toList_setIfInBounds]
  rw [List.drop_set_of_lt (by omega)]
  rw [show off+(k+1)=(off+k)+1 from by omega,List.take_succ_eq_append_getElem (by simp_all)]
  simp [List.take_set_of_le (Nat.le_refl _)]
  omega
theorem aCy {pl:List (Nat × Nat)}:
  ∀(l:List (Nat × Operand)) (ps:List (Nat × Nat × Operand)) (cs:Array Value) (out:List Value),pS pl l=some ps→(∀p∈ps,p.1+p.2.1≤cs.size)→qI (ev ρ) cs.toList ps=some out→
  Instr.fill (pl.toArray[·]?) cs (l.map fun p=>(p.1,ev ρ p.2))=some out.toArray
 | [],ps,cs,out,hp,_,hf=>by
  grind [pS,Option.some.injEq,qI,Instr.fill]
 |(i,x)::l,ps,cs,out,hp,hb,hf=>by
  simp only [pS,Option.bind_eq_some_iff,Option.map_eq_some_iff] at hp
  obtain ⟨⟨off,n⟩,hf1,ps',hps,rfl⟩:=hp
  simp only [qI] at hf
  split at hf
  ·rename_i hsz
   have hbd:=hb (off,n,x) (by simp)
   simp only at hbd
   have hpl:pl.toArray[i]? =some (off,n):=by simpa using hf1
   simp only [List.map_cons,Instr.fill,hpl]
   rw [if_neg (by simp [*])]
   have hset:=aV8 (ev ρ x).cells.toList 0 off cs (by simp [*])
   simp only [Nat.add_zero] at hset
   have hlen:((ev ρ x).cells.toList).length=n:=by simpa using hsz
   rw [hlen] at hset
   rw [←Array.foldl_toList,Array.toList_zipIdx]
   refine aCy l ps' _ out hps ?_ ?_
   ·intro p hpm
    have:=hb p (by simp [hpm])
    rw [←Array.length_toList,hset]
    simp [hlen];omega
   ·rw [hset];exact hf
  grind
theorem aPd:∀(fs:List Field) (pl:List (Nat × Nat)),places P fs=some pl→(fs.mapM (m:=Sem) fun f=>do pure (f.offset,←sizeOf f.type)).run P w=.ok pl w
 | [],pl,h=>by simp only [places,Option.some.injEq] at h;simp [*]
 |f::fs,pl,h=>by
  simp only [places,Option.bind_eq_some_iff,Option.map_eq_some_iff] at h
  obtain ⟨inf,hinf,r,hr,rfl⟩:=h
  rw [List.mapM_cons]
  simp only [Sem.run_bind,bX hinf,Result.andThen_ok,Sem.run_pure,aPd fs r hr]
theorem bF6 {t:TypeId} {inf:TypeInfo} {z:Value} {parts:Array (Nat × Operand)} {ps:List (Nat × Nat × Operand)} {cs:List Value} (hinf:P.info? t=some inf) (hz:inf.zero=some z) (hps:((placesOf P t).bind fun pl=>pS pl parts.toList)=some ps)
  (hb:∀p∈ps,p.1+p.2.1≤z.cells.size) (hcs:qI (ev ρ) z.cells.toList ps=some cs):(Instr.build t (parts.map fun p=>(p.1,ev ρ p.2))).run P w=.ok (.agg cs.toArray) w:=by
 obtain ⟨pl,hpl,hps⟩:=Option.bind_eq_some_iff.1 hps
 unfold placesOf at hpl
 split at hpl
 ·rename_i fs hu
  have hzv:(zeroValue t).run P w=.ok z w:=by simp [zeroValue,bD hinf,hz]
  have hm:=aPd (w:=w) fs.toList pl hpl
  have hfill:=aCy (ρ:=ρ) parts.toList ps z.cells cs hps hb hcs
  simp only [Instr.build,Sem.run_bind,hzv,Result.andThen_ok,aB hu,Array.mapM_eq_mapM_toList,Sem.run_map,hm]
  simp_all
 simp_all
theorem aLc {mx:Bool}:∀(ys:List Operand),ys.foldl (fun acc y=>acc.bind fun a=>wC mx a (ev ρ y)) none=none
 | []=>rfl
 |y::ys=>by simp only [List.foldl_cons,Option.bind_none];exact aLc ys
theorem aGh (mx:Bool):∀(ys:List Operand) (a v:Value),ys.foldl (fun acc y=>acc.bind fun a=>wC mx a (ev ρ y)) (some a)=some v→
  ((ys.map (ev ρ)).foldlM (m:=Sem) (if mx then Builtin.max2 else Builtin.min2) a).run P w=.ok v w
 | [],a,v,h=>by simp_all
 |y::ys,a,v,h=>by
  simp only [List.foldl_cons,Option.bind_some] at h
  cases h2:wC mx a (ev ρ y) with
  |none=>rw [h2,aLc] at h;cases h
  |some b=>
   rw [h2] at h
   have ih:=aGh mx ys b v h
   have h3:((if mx then Builtin.max2 else Builtin.min2) a (ev ρ y)).run P w=.ok b w:=by
    unfold wC at h2
    split at h2
    ·rename_i k p k' q hq
     simp only [Option.some.injEq] at h2;subst h2
     rw [hq]
     cases mx<;>rfl
    ·cases h2
   simp [*]
theorem bJ0 {op:BinOp} {t:TypeId} {q:EqK} {x y:Value} {b:Bool} (hop:op=.eql∨op=.neq) (h:aG9 q x y=some b) (he:(Op.equal t x y).run P w=.ok b w):
  (binOp op t x y).run P w=.ok (.bool (if decide (op=.neq)=true then !b else b)) w:=by
 rcases hop with rfl|rfl<;>unfold aG9 at h<;>split at h<;>first|(cases h;done)|(simp [binOp,he])
theorem aQb {place:Nat→Option (Nat × Nat)} {off sz:Nat→Nat}:∀(l:List (Nat × Operand)) (cs:Array Value) (out:List Value),(∀p∈l,place p.1=some (off p.1,sz p.1)∧off p.1+sz p.1≤cs.size)→qI (ev ρ) cs.toList (l.map fun p=>(off p.1,sz p.1,p.2))=some out→
  Instr.fill place cs (l.map fun p=>(p.1,ev ρ p.2))=some out.toArray
 | [],cs,out,_,hf=>by
  grind [qI,Option.some.injEq,Instr.fill]
 |(i,x)::l,cs,out,hp,hf=>by
  obtain ⟨hpl,hbd⟩:=hp (i,x) (by simp)
  simp only [List.map_cons,qI] at hf
  split at hf
  ·rename_i hsz
   simp only at hpl hbd
   simp only [List.map_cons,Instr.fill,hpl]
   rw [if_neg (by simp [*])]
   have hset:=aV8 (ev ρ x).cells.toList 0 (off i) cs (by simp [*])
   simp only [Nat.add_zero] at hset
   have hlen:((ev ρ x).cells.toList).length=sz i:=by simpa using hsz
   rw [hlen] at hset
   rw [←Array.foldl_toList,Array.toList_zipIdx]
   refine aQb (off:=off) (sz:=sz) l _ out ?_ ?_
   ·grind [Array.length_toList]
   simp_all
  grind
theorem bB0 {t:TypeId} {sz:Nat} (h:bE5 P t=some sz):∃n e inf,P.underlying t=some (.array n e)∧P.info? e=some inf∧inf.size=sz:=by
 unfold bE5 at h
 split at h
 ·rename_i n e hu
  obtain ⟨inf,hi,rfl⟩:=Option.map_eq_some_iff.1 h
  grind
 grind
theorem aVc {t:TypeId} {inf:TypeInfo} {z:Value} {parts:Array (Nat × Operand)} {sz:Nat} {cs:List Value} (hinf:P.info? t=some inf) (hz:inf.zero=some z) (ha:bE5 P t=some sz)
  (hb:∀p∈parts.toList,p.1*sz+sz≤z.cells.size) (hcs:qI (ev ρ) z.cells.toList (parts.toList.map fun p=>(p.1*sz,sz,p.2))=some cs):(Instr.build t (parts.map fun p=>(p.1,ev ρ p.2))).run P w=.ok (.agg cs.toArray) w:=by
 obtain ⟨n,e,einf,hu,he,rfl⟩:=bB0 ha
 have hzv:(zeroValue t).run P w=.ok z w:=by simp [zeroValue,bD hinf,hz]
 have hfill:=aQb (ρ:=ρ) (place:=fun i=>some (i*einf.size,einf.size)) (off:=fun i=>i*einf.size) (sz:=fun _=>einf.size) parts.toList z.cells cs (fun p hp=>⟨rfl,hb p hp⟩) hcs
 have e3:(parts.map fun p=>(p.1,ev ρ p.2)).toList=parts.toList.map fun p=>(p.1,ev ρ p.2):=by simp
 simp only [Instr.build,Sem.run_bind,hzv,Result.andThen_ok,aB hu,bX he]
 simp [*]
theorem info_lt {t:TypeId} (h:t<P.types.size):∃i,P.info? t=some i:=by
 refine ⟨P.types[t],?_⟩
 show (if t<P.types.size then P.types[t]? else _)=_
 simp [*]
theorem aZt {a xt:TypeId} {want:Array (String × TypeId)} {ok:Bool} {x v z:Value} (hu:P.underlying a=some (.interface want)) (hz:(zeroValue a).run P w=.ok z w) (h:aIk true (aD6 P a) P.types.size z ok x=some v):(Instr.typeAssert x xt a ok).run P w=.ok v w:=by
 have himp:∀t,(aD6 P a).contains t=true↔t<P.types.size∧∃i,P.info? t=some i∧Instr.missingMethod want i.methods=none:=by
  intro t
  unfold aD6
  rw [hu]
  simp only [List.contains_iff_mem,List.mem_filter,List.mem_range]
  constructor
  ·grind [aHg]
  ·grind [aHg]
 unfold aIk at h
 split at h
 ·split at h
  ·rename_i hok
   simp only [Option.some.injEq] at h;subst h
   simp [Instr.typeAssert,aB hu,hok,hz]
  grind
 ·rename_i t u
  split at h
  ·rename_i hm
   simp only [if_true,Option.some.injEq] at h;subst h
   obtain ⟨_,i,hi,hn⟩:=(himp t).1 hm
   cases ok<;>simp [Instr.typeAssert,aB hu,bD hi,hn]
  ·rename_i hm
   split at h
   ·rename_i hc
    obtain ⟨hok,hlt⟩:=hc
    have hlt:=hlt rfl
    simp only [Option.some.injEq] at h;subst h
    obtain ⟨i,hi⟩:=info_lt hlt
    cases hn:Instr.missingMethod want i.methods with
    |none=>simp_all
    |some m=>simp [Instr.typeAssert,aB hu,bD hi,hn,hok,hz]
   grind
 grind
theorem aWh {a xt:TypeId} {d:TypeDesc} {ok:Bool} {x v z:Value} (hu:P.underlying a=some d) (hd:∀want,d≠.interface want) (hz:(zeroValue a).run P w=.ok z w) (h:aIk false [a] 0 z ok x=some v):(Instr.typeAssert x xt a ok).run P w=.ok v w:=by
 unfold aIk at h
 split at h
 ·split at h
  ·rename_i hok
   simp only [Option.some.injEq] at h;subst h
   cases d<;>first|exact absurd rfl (hd _)|simp [Instr.typeAssert,aB hu,hok,hz]
  grind
 ·rename_i t u
  split at h
  ·rename_i hm
   simp only [Bool.false_eq_true,if_false,Option.some.injEq] at h;subst h
   have e:t=a:=by simpa using hm
   subst e
   cases ok<;>cases d<;>first|exact absurd rfl (hd _)|simp [Instr.typeAssert,aB hu]
  ·rename_i hm
   have e:t≠a:=by simpa using hm
   split at h
   ·rename_i hc
    obtain ⟨hok, -⟩:=hc
    simp only [Option.some.injEq] at h;subst h
    cases d<;>first|exact absurd rfl (hd _)|simp [Instr.typeAssert,aB hu,hok,hz,e]
   grind
 grind
theorem aT8 {t:TypeId} {v:Value} {name:String} (h:aYb P t v name=true):(nilAhead (P.types.size+Made.depth) t v name).run P w=.ok (some false) w:=by
 obtain ⟨⟨f,rv⟩,h⟩:=Option.isSome_iff_exists.1 h
 unfold sY at h
 split at h
 ·rename_i i d hi hu
  split at h
  ·rename_i m hm
   have e:P.types.size+Made.depth=(P.types.size+99)+1:=rfl
   rw [e]
   generalize P.types.size+99=fuel
   obtain ⟨mn,ms,path,func⟩:=m
   obtain ⟨path⟩:=path
   cases path with
   |cons a b=>grind
   |nil=>
    rcases func with _|⟨g,_|_⟩
    ·grind
    ·cases d<;>simp only [Option.some.injEq,Prod.mk.injEq,reduceCtorEq] at h<;>obtain ⟨rfl,rfl⟩:=h<;>
      simp [nilAhead,followBlind,bD hi,hm,aB hu]
    ·cases d<;>simp only [Option.some.injEq,Prod.mk.injEq,reduceCtorEq] at h<;>obtain ⟨rfl,rfl⟩:=h<;>
      simp [nilAhead,followBlind,bD hi,hm,aB hu]
  grind
 grind
theorem bH6 {n:Nat} {t:TypeId} {k kd:IntKind} {p q:Int} (hk:P.underlying t=some (.int k)):(Op.equalIn (n+1) t (.int kd p) (.int kd q)).run P w=.ok (decide (p=q)) w:=by
 simp [Op.equalIn,aB hk,aUw]
theorem bCr {n:Nat} {t tx ty:TypeId} {ms:Array (String × TypeId)} {a b:Value} (hd:P.underlying t=some (.interface ms)) (h:tx≠ty):(Op.equalIn (n+1) t (.iface tx a) (.iface ty b)).run P w=.ok false w:=by
 simp [Op.equalIn,aB hd,h]
theorem bCf {n:Nat} {t tx:TypeId} {ms:Array (String × TypeId)} {i:TypeInfo} {a b:Value} (hd:P.underlying t=some (.interface ms)) (hi:P.info? tx=some i) (hc:i.comparable=true):
  (Op.equalIn (n+1) t (.iface tx a) (.iface tx b)).run P w=(Op.equalIn n tx a b).run P w:=by
 simp [Op.equalIn,aB hd,bD hi,hc]
theorem aQm {n:Nat} {t tx:TypeId} {ms:Array (String × TypeId)} {a:Value} (hd:P.underlying t=some (.interface ms)):(Op.equalIn (n+1) t .nilIface (.iface tx a)).run P w=.ok false w∧(Op.equalIn (n+1) t (.iface tx a) .nilIface).run P w=.ok false w:=by
 constructor<;>simp [Op.equalIn,aB hd]
theorem aVs {t:TypeId} {ms:Array (String × TypeId)} (hd:P.underlying t=some (.interface ms)) {x y:Value} {r:Bool} (h:aA0 (aI0 P) x y=some r) (n:Nat):(Op.equalIn (n+1+1) t x y).run P w=.ok r w:=by
 unfold aA0 at h
 split at h
 ·grind [aQm]
 ·simp only [Option.some.injEq] at h;subst h
  exact (aQm hd).2
 ·rename_i tx a ty b
  split at h
  ·rename_i he
   subst he
   split at h
   ·rename_i hm
    unfold aI0 at hm
    simp only [List.contains_iff_mem,List.mem_filter,List.mem_range] at hm
    obtain ⟨h1,h2⟩:=hm
    split at h2
    ·rename_i i k hi hk
     rw [bCf hd hi h2]
     unfold kR at h
     grind [bH6]
    grind
   grind
  grind [bCr]
 grind
theorem aZy {t:TypeId} {ms:Array (String × TypeId)} (hd:P.underlying t=some (.interface ms)) {x y:Value} {r:Bool} (h:aA0 (aI0 P) x y=some r):(Op.equal t x y).run P w=.ok r w:=
 aVs hd h 9998
theorem bBq {op:BinOp} {t:TypeId} {ts:List TypeId} {x y:Value} {b:Bool} (hop:op=.eql∨op=.neq) (h:aA0 ts x y=some b) (he:(Op.equal t x y).run P w=.ok b w):
  (binOp op t x y).run P w=.ok (.bool (if decide (op=.neq)=true then !b else b)) w:=by
 rcases hop with rfl|rfl<;>unfold aA0 at h<;>split at h<;>first|(cases h;done)|(simp [binOp,he])
theorem aCr [Quiet P] (o:Oper) (v:Value) (hst:(aI P o).isStill=true) (hnp:(aI P o).isPc=false) (hv:(aI P o).rd ρ w=some v):(execOp (ev ρ) o).run P w=.ok (.value v) w:=by
 obtain ⟨dst,op,ty,pos,after,guard⟩:=o
 cases op
 case move x=>simp only [aI,KOp.rd,KOp.fix,Option.some.injEq] at hv;subst hv;rfl
 case assign x=>simp only [aI,KOp.rd,KOp.fix,Option.some.injEq] at hv;subst hv;rfl
 case pick c a b=>
  simp only [aI,KOp.rd,KOp.fix] at hv
  split at hv
  ·rename_i t ht
   simp only [Option.some.injEq] at hv;subst hv
   simp [execOp,ht,asBool]
  grind
 case typeAssert x xt a ok=>
  simp only [aI] at hst hv
  cases hu:P.underlying a with
  |none=>grind [KOp.isStill,KOp.isFix]
  |some d=>
   cases hz:zeroOf P a with
   |none=>grind [KOp.isStill,KOp.isFix]
   |some z=>
    have hzr:(zeroValue a).run P w=.ok z w:=by
     unfold zeroOf at hz
     obtain ⟨inf,h1,h2⟩:=Option.bind_eq_some_iff.1 hz
     simp [zeroValue,bD h1,h2]
    refine fO (s:=Instr.typeAssert (ev ρ x) xt a ok) rfl ?_
    rw [hu,hz] at hv
    by_cases hd:∃want,d=.interface want
    ·obtain ⟨want,rfl⟩:=hd
     exact aZt hu hzr hv
    ·refine aWh hu (fun want e=>hd ⟨want,e⟩) hzr ?_
     cases d<;>first|exact absurd ⟨_,rfl⟩ hd|exact hv
 case load t x=>
  simp only [aI] at hst hv
  split at hst
  ·rename_i n hn
   simp only [hn,KOp.rd] at hv
   split at hv
   ·rename_i a ha
    obtain ⟨l,hl,rfl⟩:=Option.map_eq_some_iff.1 hv
    refine fO (s:=Instr.loadAt t (ev ρ x)) rfl ?_
    obtain ⟨h1,h2⟩:=sH hn w
    rw [ha]
    simp [Instr.loadAt,kY,loadVar,h1,h2,loadCells,run_loadCellsFrom n 0 #[] l hl]
   grind
  ·rename_i hn
   simp only [hn,KOp.rd] at hv
   split at hv
   ·rename_i a ha
    refine fO (s:=Instr.loadAt t (ev ρ x)) rfl ?_
    rw [ha]
    simp [Instr.loadAt,kY,loadVar,rU hn w,load,Sem.run,hv]
   grind
  grind [KOp.isStill,KOp.isFix]
 case fieldAddr t x i=>
  simp only [aI] at hst hv
  split at hst
  ·rename_i f hf
   split at hst
   ·rename_i inf hinf
    split at hst
    ·grind [KOp.isStill,KOp.isFix]
    ·rename_i hz
     simp only [hf,hinf,if_neg hz,KOp.rd,KOp.fix] at hv
     split at hv
     ·rename_i a ha
      simp only [Option.some.injEq] at hv;subst hv
      obtain ⟨fs,hu,hfs⟩:=aI9 hf
      refine fO (s:=Instr.fieldAt t (ev ρ x) i) rfl ?_
      rw [ha]
      simp [Instr.fieldAt,aB hu,hfs,kY,fieldPlace,bX hinf,hz]
     grind
   grind [KOp.isStill,KOp.isFix]
  grind [KOp.isStill,KOp.isFix]
 case indexAddr t x i=>
  simp only [aI] at hst hv
  split at hst
  ·rename_i e he
   split at hst
   ·rename_i inf hinf
    simp only [he,hinf,KOp.rd,KOp.fix] at hv
    split at hv
    ·rename_i a ln c k n hx hi
     split at hv
     ·rename_i hc
      simp only [Option.some.injEq] at hv;subst hv
      refine fO (s:=Instr.indexAt t (ev ρ x) (ev ρ i)) rfl ?_
      rw [hx,hi]
      simp [Instr.indexAt,asIntOf,aB he,bX hinf,hc]
     grind
    grind
   grind [KOp.isStill,KOp.isFix]
  ·rename_i n e he
   split at hst
   ·rename_i inf hinf
    simp only [he,hinf,KOp.rd,KOp.fix] at hv
    split at hv
    ·rename_i a k m hx hi
     split at hv
     ·rename_i hc
      simp only [Option.some.injEq] at hv;subst hv
      refine fO (s:=Instr.indexAt t (ev ρ x) (ev ρ i)) rfl ?_
      rw [hx,hi]
      simp [Instr.indexAt,asIntOf,aB he,bX hinf,kY,hc]
     grind
    grind
   grind [KOp.isStill,KOp.isFix]
  grind [KOp.isStill,KOp.isFix]
 case field t x i=>
  simp only [aI] at hst hv
  split at hst
  ·rename_i f hf
   obtain ⟨fs,hu,hfs⟩:=aI9 hf
   split at hst
   ·rename_i n hn
    simp only [hf,hn,KOp.rd,KOp.fix] at hv
    split at hv
    ·rename_i cs hx
     simp only [Option.some.injEq] at hv;subst hv
     refine fO (s:=Instr.field t (ev ρ x) i) rfl ?_
     rw [hx]
     obtain ⟨h1,h2⟩:=sH hn w
     simp [Instr.field,aB hu,hfs,asAgg,part,h1,h2]
    grind
   ·rename_i hn
    simp only [hf,hn,KOp.rd,KOp.fix] at hv
    split at hv
    ·rename_i cs hx
     refine fO (s:=Instr.field t (ev ρ x) i) rfl ?_
     rw [hx]
     simp [Instr.field,aB hu,hfs,asAgg,part,rU hn w,hv]
    grind
   grind [KOp.isStill,KOp.isFix]
  grind [KOp.isStill,KOp.isFix]
 case extract x i=>
  simp only [aI,KOp.rd,KOp.fix] at hv
  split at hv
  ·rename_i vs hx
   refine fO (s:=Instr.extract (ev ρ x) i) rfl ?_
   rw [hx]
   simp [Instr.extract,hv]
  grind
 case index t x i=>
  simp only [aI] at hst hv
  split at hst
  ·rename_i hu
   simp only [hu,KOp.rd,KOp.fix] at hv
   split at hv
   ·rename_i s k n hx hi
    split at hv
    ·rename_i hn
     obtain ⟨b,hb,rfl⟩:=Option.map_eq_some_iff.1 hv
     refine fO (s:=Instr.index t (ev ρ x) (ev ρ i)) rfl ?_
     rw [hx,hi]
     simp [Instr.index,asIntOf,aB hu,hn,hb]
    grind
   grind
  ·rename_i n e he
   split at hst
   ·rename_i inf hagg hinf
    split at hst
    ·rename_i h1
     simp only [he,hagg,hinf,if_pos h1,KOp.rd,KOp.fix] at hv
     split at hv
     ·rename_i cs k m hx hi
      split at hv
      ·rename_i hc
       refine fO (s:=Instr.index t (ev ρ x) (ev ρ i)) rfl ?_
       rw [hx,hi]
       simp [Instr.index,asIntOf,aB he,hc,bX hinf,h1,part,rU hagg w,hv]
      grind
     grind
    grind [KOp.isStill,KOp.isFix]
   grind [KOp.isStill,KOp.isFix]
  grind [KOp.isStill,KOp.isFix]
 case unOp op t x=>
  cases op
  case not=>
   simp only [aI,KOp.rd,KOp.fix] at hv
   split at hv
   ·rename_i b hx
    simp only [Option.some.injEq] at hv;subst hv
    refine fO (s:=Op.unary .not (ev ρ x)) rfl ?_
    rw [hx];rfl
   grind
  case neg=>
   simp only [aI,KOp.rd,KOp.fix] at hv
   split at hv
   ·rename_i k n hx
    simp only [Bool.false_eq_true,if_false,dG,Option.some.injEq] at hv;subst hv
    refine fO (s:=Op.unary .neg (ev ρ x)) rfl ?_
    rw [hx];rfl
   grind
  case plus=>grind [aI,KOp.isStill,KOp.isFix]
  case xor=>
   simp only [aI,KOp.rd,KOp.fix] at hv
   split at hv
   ·rename_i k n hx
    simp only [if_true,dG,Option.some.injEq] at hv;subst hv
    refine fO (s:=Op.unary .xor (ev ρ x)) rfl ?_
    rw [hx];rfl
   grind
 case nilCheck x=>
  have plain:(KOp.nilCheck x).rd ρ w=some v→(execOp (ev ρ) ⟨dst,.nilCheck x,ty,pos,after,guard⟩).run P w=.ok (.value v) w:=by
   intro hv
   simp only [KOp.rd,KOp.fix] at hv
   split at hv
   ·rename_i a hx
    simp only [Option.some.injEq] at hv;subst hv
    simp [execOp,hx]
   ·cases hv
  simp only [aI] at hv
  split at hv
  ·simp [*]
  split at hv
  ·simp only [KOp.rd,KOp.fix] at hv
   split at hv
   ·rename_i name first captured hx
    split at hv
    ·rename_i t u hf
     split at hv
     ·rename_i hm
      simp only [Option.some.injEq] at hv;subst hv
      simp [execOp,hx,hf,aT8 hm]
     grind
    grind
   grind
  simp [*]
 case makeFunc fn f c=>
  simp only [aI,KOp.rd,KOp.fix,Option.some.injEq] at hv;subst hv
  refine fO (s:=Instr.makeFunc fn (f.map (ev ρ)) (c.map (ev ρ))) rfl ?_
  rw [aYa,aYa];rfl
 case makeInterface t x=>
  simp only [aI] at hst hv
  split at hst
  ·grind [KOp.isStill,KOp.isFix]
  ·rename_i d hn hu
   rw [hu] at hv
   refine fO (s:=Instr.makeInterface t (ev ρ x)) rfl ?_
   simp only [Instr.makeInterface,Sem.run_bind,aB hu,Result.andThen_ok]
   cases d<;>first
    |exact absurd rfl (hn _)
    |(simp only [KOp.rd,KOp.fix,Option.some.injEq] at hv;subst hv;rfl)
  grind [KOp.isStill,KOp.isFix]
 case binOp op t x y yt=>
  have fin:∀{u:Value},(eqGuard op t x y (ev ρ x) (ev ρ y)).run P w=.ok () w→(binOp op t (ev ρ x) (ev ρ y)).run P w=.ok u w→
    (execOp (ev ρ) {dst:=dst,op:=.binOp op t x y yt,type:=ty,pos:=pos,after:=after,guard:=guard}).run P w=.ok (.value u) w:=fun h1 h2=>
   fO (s:=(do eqGuard op t x y (ev ρ x) (ev ρ y);binOp op t (ev ρ x) (ev ρ y))) rfl (by simp [*])
  have scal:∀{u:Value},bM op (ev ρ x) (ev ρ y)=some u→(execOp (ev ρ) {dst:=dst,op:=.binOp op t x y yt,type:=ty,pos:=pos,after:=after,guard:=guard}).run P w=.ok (.value u) w:=by
   intro u hu
   refine fin (wV fun p q=>?_) (aTh hu)
   constructor
   ·grind [bM]
   ·grind [bM]
  have nilc:∀{u:Value} {d:TypeDesc} {q:EqK},(op=.eql∨op=.neq)→P.underlying t=some d→eqK d=some q→(q=.iface→(Region.isConst x||Region.isConst y)=true)→
    ((aG9 q (ev ρ x) (ev ρ y)).map fun b=>Value.bool (if decide (op=.neq)=true then !b else b))=some u→
    (execOp (ev ρ) {dst:=dst,op:=.binOp op t x y yt,type:=ty,pos:=pos,after:=after,guard:=guard}).run P w=.ok (.value u) w:=by
   intro u d q hop hd hq hc hu
   obtain ⟨b,hb,rfl⟩:=Option.map_eq_some_iff.1 hu
   have he:=aX9 (w:=w) hd hq hb
   have hna:∀p r,¬(ev ρ x=.agg p∧ev ρ y=.agg r):=by
    rintro p r ⟨h1,h2⟩;rw [h1,h2] at hb;cases q<;>simp [aG9] at hb
   refine fin ?_ ?_
   ·grind [aRo,wV,aG9]
   ·grind [bJ0]
  simp only [aI] at hst hv
  by_cases hop:op=.eql∨op=.neq
  ·simp only [if_pos hop] at hst hv
   cases hu:P.underlying t with
   |none=>grind [KOp.isStill,KOp.isFix]
   |some d=>
    rw [hu] at hst hv
    cases d
    case int k=>exact scal hv
    case string=>exact scal hv
    case struct fs=>
     simp only at hst hv
     split at hst
     ·grind [KOp.isStill,KOp.isFix]
     ·rename_i hg
      rw [if_neg hg] at hv
      cases hk:iL P 20 t with
      |none=>grind [KOp.isStill,KOp.isFix]
      |some ks=>
       rw [hk] at hv
       simp only [KOp.rd,KOp.fix] at hv
       split at hv
       ·rename_i xs ys hx hy
        obtain ⟨b,hb,rfl⟩:=Option.map_eq_some_iff.1 hv
        have he:=aM9 (w:=w) 20 t ks hk _ _ b hb 9980
        rw [fR hu,fR hu] at he
        refine fin (by grind [run_eqGuard_agg]) ?_
        rw [hx,hy]
        rcases hop with rfl|rfl
        ·rw [run_eql_struct]
         simp [*]
        ·rw [run_neq_struct]
         simp [*]
       grind
    case interface ms=>
     simp only [eqK] at hst hv
     split at hst
     ·rename_i hc
      rw [if_pos hc] at hv
      exact nilc hop hu rfl (fun _=>hc) hv
     ·rename_i hc
      rw [if_neg hc] at hv
      simp only [KOp.rd,KOp.fix] at hv
      obtain ⟨b,hb,rfl⟩:=Option.map_eq_some_iff.1 hv
      grind [aZy,wV,bBq,aA0]
    case bool=>exact nilc hop hu rfl (fun h=>by cases h) hv
    case pointer e=>exact nilc hop hu rfl (fun h=>by cases h) hv
    case slice e=>exact nilc hop hu rfl (fun h=>by cases h) hv
    case map k e=>exact nilc hop hu rfl (fun h=>by cases h) hv
    case func a b c=>exact nilc hop hu rfl (fun h=>by cases h) hv
    all_goals simp [eqK,KOp.isStill,KOp.isFix] at hst
  ·simp only [if_neg hop] at hst hv
   exact fin (aQu hop) (aTh hv)
 case convert s d x=>
  simp only [aI] at hst hv
  split at hst
  ·rename_i ds k hs hd
   rw [hs,hd] at hv
   simp only [KOp.rd,KOp.fix] at hv
   split at hv
   ·rename_i k' n hx
    simp only [Option.some.injEq] at hv;subst hv
    refine fO (s:=convert s d (ev ρ x)) rfl ?_
    rw [hx]
    simp [convert,aB hs,aB hd,Conv.intToInt]
   grind
  ·rename_i hs hd
   rw [hs,hd] at hv
   simp only [KOp.rd,KOp.fix] at hv
   split at hv
   ·rename_i st hx
    simp only [Option.some.injEq] at hv;subst hv
    refine fO (s:=convert s d (ev ρ x)) rfl ?_
    rw [hx]
    simp [convert,aB hs,aB hd]
   grind
  ·split at hst<;>simp [KOp.isStill,KOp.isFix] at hst
  ·split at hst<;>simp [KOp.isStill,KOp.isFix] at hst
  grind [KOp.isStill,KOp.isFix]
 case slice t x lo hi mx=>
  cases mx with
  |some m=>grind [aI,KOp.isStill,KOp.isFix]
  |none=>
   simp only [aI] at hst hv
   split at hst
   ·rename_i hu
    rw [hu] at hv
    simp only [KOp.rd,KOp.fix] at hv
    split at hv
    ·rename_i st hx
     obtain ⟨h,e1,hv⟩:=Option.bind_eq_some_iff.1 hv
     obtain ⟨l,e2,rfl⟩:=Option.map_eq_some_iff.1 hv
     refine fO (s:=Instr.sliceAt t (ev ρ x) (lo.map (ev ρ)) (hi.map (ev ρ)) none) rfl ?_
     rw [hx]
     simp [Instr.sliceAt,aB hu,Instr.slice,aN7 false st.size st.size h l e1 e2]
    grind
   ·rename_i e hu
    split at hst
    ·rename_i inf hinf
     rw [hu] at hv
     simp only [hinf,KOp.rd,KOp.fix] at hv
     split at hv
     ·rename_i a ln cap hx
      obtain ⟨h,e1,hv⟩:=Option.bind_eq_some_iff.1 hv
      obtain ⟨l,e2,rfl⟩:=Option.map_eq_some_iff.1 hv
      refine fO (s:=Instr.sliceAt t (ev ρ x) (lo.map (ev ρ)) (hi.map (ev ρ)) none) rfl ?_
      rw [hx]
      simp [Instr.sliceAt,aB hu,Instr.slice,aN7 true ln cap h l e1 e2,bX hinf]
     grind
    grind [KOp.isStill,KOp.isFix]
   grind [KOp.isStill,KOp.isFix]
 case call c=>
  obtain ⟨callee,args,argTypes⟩:=c
  cases callee with
  |value f=>cases f<;>simp only [aI] at hst hnp<;>(repeat' split at hst)<;>simp_all [KOp.isStill,KOp.isFix,KOp.isPc]
  |invoke r m=>grind [aI,KOp.isStill,KOp.isFix]
  |builtin b=>
   cases b
   case len=>
    simp only [aI] at hst hv
    split at hst
    ·rename_i x t hx ht
     have ea:args=#[x]:=by apply Array.ext';simpa using hx
     have et:argTypes=#[t]:=by apply Array.ext';simpa using ht
     subst ea;subst et
     have ex:∀{u:Value},(Builtin.len_ #[t] ty #[ev ρ x]).run P w=.ok u w→(execOp (ev ρ) {dst:=dst,op:=.call {callee:=.builtin .len,args:=#[x],argTypes:=#[t]},type:=ty,pos:=pos,after:=after,guard:=guard}).run P w=.ok (.value u) w:=by
      intro u hu
      simp [execOp,resolve,invoke,builtin,hu]
     simp only at hv
     split at hst
     ·rename_i hu
      rw [hu] at hv
      simp only [KOp.rd,KOp.fix] at hv
      split at hv
      ·rename_i s hs
       simp only [Option.some.injEq] at hv;subst hv
       refine ex ?_
       simp [Builtin.len_,aB hu,hs,goInt]
      grind
     ·rename_i e hu
      rw [hu] at hv
      simp only [KOp.rd,KOp.fix] at hv
      split at hv
      ·rename_i a n cc hs
       simp only [Option.some.injEq] at hv;subst hv
       refine ex ?_
       simp [Builtin.len_,aB hu,hs,goInt]
      grind
     ·rename_i k e hu
      rw [hu] at hv
      simp only [KOp.rd] at hv
      split at hv
      ·rename_i hs
       simp only [Option.some.injEq] at hv;subst hv
       refine ex ?_
       simp [Builtin.len_,aB hu,hs,goInt]
      ·rename_i r hs
       split at hv
       ·rename_i es cl hr
        simp only [Option.some.injEq] at hv;subst hv
        refine ex ?_
        have hg:(getObj r).run P w=.ok (.map es cl) w:=by simp [getObj,Sem.run,hr]
        simp [Builtin.len_,aB hu,hs,goInt,hg]
       grind
      grind
     grind [KOp.isStill,KOp.isFix]
    grind [KOp.isStill,KOp.isFix]
   case cap=>
    simp only [aI] at hst hv
    split at hst
    ·rename_i x t hx ht
     have ea:args=#[x]:=by apply Array.ext';simpa using hx
     have et:argTypes=#[t]:=by apply Array.ext';simpa using ht
     subst ea;subst et
     simp only at hv
     split at hst
     ·rename_i e hu
      rw [hu] at hv
      simp only [KOp.rd,KOp.fix] at hv
      split at hv
      ·rename_i a n cc hs
       simp only [Option.some.injEq] at hv;subst hv
       simp [execOp,resolve,invoke,builtin,Builtin.cap_,aB hu,hs,goInt]
      grind
     grind [KOp.isStill,KOp.isFix]
    grind [KOp.isStill,KOp.isFix]
   case min=>
    simp only [aI] at hst hv
    split at hst
    ·rename_i x ys hx
     rw [hx] at hv
     simp only [KOp.rd,KOp.fix] at hv
     have h2:((args.toList.map (ev ρ)).toArray:Array Value).toList=ev ρ x::ys.map (ev ρ):=by rw [hx];rfl
     have hm:=aGh (P:=P) (w:=w) false ys (ev ρ x) v (by simpa using hv)
     have hb:(Builtin.min_ argTypes ty (args.toList.map (ev ρ)).toArray).run P w=.ok v w:=by
      unfold Builtin.min_;rw [h2];simpa using hm
     simp only [execOp,resolve,aYa,Sem.run_bind,Sem.run_pure,Result.andThen_ok,invoke,builtin,hb]
    grind [KOp.isStill,KOp.isFix]
   case max=>
    simp only [aI] at hst hv
    split at hst
    ·rename_i x ys hx
     rw [hx] at hv
     simp only [KOp.rd,KOp.fix] at hv
     have h2:((args.toList.map (ev ρ)).toArray:Array Value).toList=ev ρ x::ys.map (ev ρ):=by rw [hx];rfl
     have hm:=aGh (P:=P) (w:=w) true ys (ev ρ x) v (by simpa using hv)
     have hb:(Builtin.max_ argTypes ty (args.toList.map (ev ρ)).toArray).run P w=.ok v w:=by
      unfold Builtin.max_;rw [h2];simpa using hm
     simp only [execOp,resolve,aYa,Sem.run_bind,Sem.run_pure,Result.andThen_ok,invoke,builtin,hb]
    grind [KOp.isStill,KOp.isFix]
   all_goals first
    |(simp [aI,KOp.isStill,KOp.isFix] at hst;done)
    |(simp only [aI] at hst;(repeat' split at hst)<;>simp [KOp.isStill,KOp.isFix] at hst)
 case lookup t m k ok=>
  simp only [aI] at hst hv
  split at hst
  ·rename_i s ks e hk
   split at hst
   ·rename_i z hz
    simp only [hk,hz,KOp.rd] at hv
    have hk':=hk
    unfold keyOf at hk'
    split at hk'
    ·rename_i kt et hu
     obtain ⟨ks',hks,heq⟩:=Option.map_eq_some_iff.1 hk'
     simp only [Prod.mk.injEq] at heq
     obtain ⟨hs,rfl,rfl⟩:=heq
     have hs':s=xM P kt:=hs.symm
     subst hs'
     obtain ⟨inf,hinf,hz'⟩:=Option.bind_eq_some_iff.1 hz
     have hzv:∀w,(zeroValue et).run P w=.ok z w:=fun w=>by simp [zeroValue,bD hinf,hz']
     rw [Option.ite_none_right_eq_some] at hv
     obtain ⟨hok,hv⟩:=hv
     refine fO (s:=Instr.lookup t (ev ρ m) (ev ρ k) ok) rfl ?_
     split at hv
     ·rename_i hm
      simp only [Option.some.injEq] at hv;subst hv
      rw [hm]
      have hf:(Instr.findKey kt (ev ρ k) []).run P w=.ok none w:=xR (r:=none) hks rfl
      have hck:=xI (w:=w) (em:=true) hks hok
      cases ok<;>simp [Instr.lookup,aB hu,hck,hf,hzv]
     ·rename_i r hm
      split at hv
      ·rename_i es cl hr
       obtain ⟨f,hf,rfl⟩:=Option.map_eq_some_iff.1 hv
       have hg:(getObj r).run P w=.ok (.map es cl) w:=by simp [getObj,Sem.run,hr]
       have hck:=xI (w:=w) (em:=es.isEmpty) hks hok
       have hfk:=xR (w:=w) hks hf
       rw [hm]
       cases f with
       |none=>cases ok<;>simp [Instr.lookup,aB hu,hg,hck,hfk,hzv]
       |some p=>obtain ⟨i,v⟩:=p;cases ok<;>simp [Instr.lookup,aB hu,hg,hck,hfk]
      ·cases hv
     grind
    simp_all
   grind [KOp.isStill,KOp.isFix]
  grind [KOp.isStill,KOp.isFix]
 case build t parts=>
  simp only [aI] at hst hv
  split at hst
  ·rename_i inf hinf
   split at hst
   ·rename_i z hz
    split at hst
    ·rename_i ps hps
     split at hst
     ·rename_i hb
      simp only [hinf,hz,hps,if_pos hb,KOp.rd,KOp.fix] at hv
      obtain ⟨cs,hcs,rfl⟩:=Option.map_eq_some_iff.1 hv
      refine fO (s:=Instr.build t (parts.map fun p=>(p.1,ev ρ p.2))) rfl ?_
      grind [bF6]
     grind [KOp.isStill,KOp.isFix]
    ·rename_i hps
     split at hst
     ·rename_i sz ha
      split at hst
      ·rename_i hb
       simp only [hinf,hz,hps,ha,if_pos hb,KOp.rd,KOp.fix] at hv
       obtain ⟨cs,hcs,rfl⟩:=Option.map_eq_some_iff.1 hv
       refine fO (s:=Instr.build t (parts.map fun p=>(p.1,ev ρ p.2))) rfl ?_
       grind [aVc]
      grind [KOp.isStill,KOp.isFix]
     grind [KOp.isStill,KOp.isFix]
   grind [KOp.isStill,KOp.isFix]
  grind [KOp.isStill,KOp.isFix]
 case box t x=>grind [aI,KOp.isStill,KOp.isFix]
 case makeMap t r=>cases r<;>simp [aI,KOp.isStill,KOp.isFix] at hst
 case next it b=>cases b<;>simp [aI,KOp.isStill,KOp.isFix] at hst
 case alloc t=>grind [aI,KOp.isStill,KOp.isFix]
 case store t x y=>grind [aI,KOp.isStill,KOp.isFix]
 all_goals first
  |(simp [aI,KOp.isStill,KOp.isFix] at hst;done)
  |(simp only [aI] at hst;(repeat' split at hst)<;>simp [KOp.isStill,KOp.isFix] at hst)
theorem aSt {f:FuncId} {vs:Array Value} (hb:bW P f=true):(callFunc f vs).run P w=.ok (.enter f vs) w:=by
 unfold bW at hb
 split at hb
 ·rename_i fn hfn
  simp only [Bool.and_eq_true,Bool.not_eq_true'] at hb
  have hne:fn.name≠ "runtime.NumGoroutine" :=by simpa using hb.2
  have hbn:fn.body≠none:=by intro hn;rw [hn] at hb;simp at hb
  simp [callFunc,hfn,hne,hbn]
 grind
theorem pP [Quiet P] (o:Oper) (v:Value) (hst:(aI P o).isStill=true) (hv:(aI P o).rd ρ w=some v):
  (execOp (ev ρ) o).run P w=.ok (.value v) w∨((execOp (ev ρ) o).run P w=.ok .skip w∧v=undef)∨∃f args,(execOp (ev ρ) o).run P w=.ok (.enter f args) w∧Calls P f args w (fun e w''=>e=.returned v∧w''=w):=by
 cases hp:(aI P o).isPc with
 |false=>grind [aCr]
 |true=>
  obtain ⟨dst,op,ty,pos,after,guard⟩:=o
  cases op
  case call c=>
   obtain ⟨callee,args,argTypes⟩:=c
   cases callee with
   |value fo=>
    cases fo with
    |func f=>
     simp only [aI] at hp hv
     split at hp
     ·rename_i hb
      rw [if_pos hb] at hv
      split at hp
      ·rename_i F hF
       rw [hF] at hv
       simp only [KOp.rd] at hv
       refine .inr (.inr ⟨f,(args.toList.map (ev ρ)).toArray,?_,Quiet.ok f F _ v w hF hv⟩)
       simp only [execOp,resolve,ev,Deferred.ofValue,Sem.run_bind,Sem.run_pure,Result.andThen_ok,invoke]
       grind [aYa,aSt]
      grind [KOp.isPc]
     grind [KOp.isPc]
    |tmp t=>simp [aI,KOp.isPc] at hp
    |const v=>simp [aI,KOp.isPc] at hp
    |global g=>simp [aI,KOp.isPc] at hp
   |invoke r m=>simp [aI,KOp.isPc] at hp
   |builtin b=>cases b<;>simp only [aI] at hp<;>(repeat' split at hp)<;>simp [KOp.isPc] at hp
  case unOp op t x=>cases op<;>simp [aI,KOp.isPc] at hp
  case slice t x lo hi mx=>cases mx<;>simp only [aI] at hp<;>(repeat' split at hp)<;>simp [KOp.isPc] at hp
  case makeMap t r=>cases r<;>simp [aI,KOp.isPc] at hp
  case next it b=>cases b<;>simp [aI,KOp.isPc] at hp
  all_goals first
   |(simp [aI,KOp.isPc] at hp;done)
   |(simp only [aI] at hp;(repeat' split at hp)<;>simp [KOp.isPc] at hp)
end
end Go.K
