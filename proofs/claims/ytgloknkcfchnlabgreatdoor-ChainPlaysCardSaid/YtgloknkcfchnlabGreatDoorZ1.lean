/- The engine, part 1: operations with their types resolved, an -/
import Derived.WalkKit
import Derived.Orders
import Derived.Still
set_option linter.unusedVariables false
set_option linter.unusedSimpArgs false
namespace Go
theorem nLt{a b c:Nat}(h:a<b)(k:b≤c):a<c:=Nat.lt_of_lt_of_le h k
theorem nTr{a b c:Nat}(h:a≤b)(k:b≤c):a≤c:=Nat.le_trans h k
theorem dTr{p:Prop}[i:Decidable p](h:p):decide p=true:=decide_eq_true h
theorem dFa{p:Prop}[i:Decidable p](h:¬p):decide p=false:=decide_eq_false h
theorem tLe{α:Type _}{l:List α}{i:Nat}(h:l.length≤i):l.take i=l:=List.take_of_length_le h
theorem gMe{α:Type _}{l:List α}{n:Nat}(h:n<l.length):l[n]∈l:=List.getElem_mem h
end Go
namespace Go.K
section
open Go
abbrev Env:=Nat→Value
def upd (ρ:Env) (d:Nat) (v:Value):Env:=fun t=>if t=d then v else ρ t
def ev (ρ:Env):Operand→Value
 |.tmp t=>ρ t
 |.const v=>v
 |.global g=>.pointer (some ⟨g,0,none⟩)
 |.func f=>.func (.func f) #[] #[]
def put (ρ:Env):Option Tmp→Value→Env
 |some d,v=>upd ρ d v
 |none,_=>ρ
theorem upd_same (ρ:Env) (d:Nat) (v:Value):upd ρ d v d=v:=by simp [upd]
theorem upd_ne (ρ:Env) {d t:Nat} (v:Value) (h:t≠d):upd ρ d v t=ρ t:=by simp [upd,h]
structure Rep (n:Nat) (a:Act) (ρ:Env):Prop where
 defers:a.defers= []
 size:a.tmps.size=n
 at_:∀t,t<n→a.tmps[t]? =some (ρ t)
theorem Rep.getD {n:Nat} {a:Act} {ρ:Env} (h:Rep n a ρ) {t:Nat} (ht:t<n):a.tmps.getD t undef=ρ t:=by
 have:=h.at_ t ht
 simp [this]
def aBi (n:Nat):Operand→Bool
 |.tmp t=>t<n
 |_=>true
theorem Rep.eval {n:Nat} {a:Act} {ρ:Env} (h:Rep n a ρ) {x:Operand} (hx:aBi n x=true):a.eval x=ev ρ x:=by
 cases x<;>simp only [Act.eval,ev]
 exact h.getD (by simpa [aBi] using hx)
theorem Rep.put {n:Nat} {a:Act} {ρ:Env} (h:Rep n a ρ) {d:Option Tmp} (v:Value) (hd:∀t,d=some t→t<n):Rep n (a.put d v) (put ρ d v):=by
 cases d with
 |none=>exact h
 |some d=>
  have hlt:=hd d rfl
  refine ⟨h.defers,by simp [Act.put,h.size],fun t ht=>?_⟩
  simp only [Act.put,K.put]
  by_cases e:t=d
  ·subst e;rw [upd_same,Array.getElem?_setIfInBounds_self];simp [h.size,ht]
  ·rw [upd_ne _ _ e,Array.getElem?_setIfInBounds_ne (Ne.symm e)];exact h.at_ t ht
def cP (op:BinOp) (k:IntKind) (a b:Int):Option Value:=
 match op with
 |.add=>some (.int k (k.wrap (a+b)))
 |.sub=>some (.int k (k.wrap (a - b)))
 |.mul=>some (.int k (k.wrap (a*b)))
 |.quo=>if b=0 then none else some (.int k (k.wrap (a.tdiv b)))
 |.rem=>if b=0 then none else some (.int k (a.tmod b))
 |.and=>some (.int k (k.wrap (BitVec.ofInt k.bits a&&& BitVec.ofInt k.bits b).toNat))
 |.or=>some (.int k (k.wrap (BitVec.ofInt k.bits a|||BitVec.ofInt k.bits b).toNat))
 |.xor=>some (.int k (k.wrap (BitVec.ofInt k.bits a^^^BitVec.ofInt k.bits b).toNat))
 |.andNot=>some (.int k (k.wrap (BitVec.ofInt k.bits a&&& ~~~ BitVec.ofInt k.bits b).toNat))
 |.eql=>some (.bool (decide (a=b)))
 |.neq=>some (.bool (!decide (a=b)))
 |.lss=>some (.bool (decide (a<b)))
 |.leq=>some (.bool (decide (a≤b)))
 |.gtr=>some (.bool (decide (a>b)))
 |.geq=>some (.bool (decide (a≥b)))
 |_=>none
def aPi (op:BinOp) (x y:ByteArray):Option Value:=
 match op with
 |.add=>if ((x.size+y.size:Nat):Int)>IntKind.i64.max then none else some (.string (x++y))
 |.eql=>some (.bool (decide (x=y)))
 |.neq=>some (.bool (!decide (x=y)))
 |.lss=>some (.bool (Op.bytesLess x.toList y.toList))
 |.leq=>some (.bool (Op.bytesLess x.toList y.toList||decide (x=y)))
 |.gtr=>some (.bool (!(Op.bytesLess x.toList y.toList||decide (x=y))))
 |.geq=>some (.bool (!(Op.bytesLess x.toList y.toList)))
 |_=>none
def dJ:BinOp→Bool
 |.shl|.shr=>true
 |_=>false
def bL (op:BinOp):Value→Value→Option Value
 |.int k a,.int k' b=>
  if dJ op then
   if b<0 then none else
   match op with
   |.shl=>some (.int k (k.wrap (a*2^(min b.toNat k.bits))))
   |_=>some (.int k (a.fdiv (2^(min b.toNat k.bits))))
  else if k=k' then cP op k a b else none
 |.string x,.string y=>aPi op x y
 |_,_=>none
inductive EqK where
 |bool|pointer|slice|map|func|iface
def eqK:TypeDesc→Option EqK
 |.bool=>some .bool
 |.pointer _=>some .pointer
 |.slice _=>some .slice
 |.map _ _=>some .map
 |.func _ _ _=>some .func
 |.interface _=>some .iface
 |_=>none
def yY:EqK→Value→Value→Option Bool
 |.pointer,.pointer none,.pointer b=>some b.isNone
 |.pointer,.pointer _,.pointer none=>some false
 |.slice,.slice none _ _,.slice b _ _=>some b.isNone
 |.slice,.slice _ _ _,.slice none _ _=>some false
 |.map,.map none,.map b=>some b.isNone
 |.map,.map _,.map none=>some false
 |.func,.nilFunc,.nilFunc=>some true
 |.func,.nilFunc,.func _ _ _=>some false
 |.func,.func _ _ _,.nilFunc=>some false
 |.iface,.nilIface,.iface _ _=>some false
 |.iface,.iface _ _,.nilIface=>some false
 |.iface,.nilIface,.nilIface=>some true
 |.bool,.bool a,.bool b=>some (a==b)
 |_,_,_=>none
inductive CK where
 |i|s|b
def fV:CK→Value→Value→Option Bool
 |.i,.int k a,.int k' b=>if k=k' then some (decide (a=b)) else none
 |.s,.string a,.string b=>some (decide (a=b))
 |.b,.bool a,.bool b=>some (a==b)
 |_,_,_=>none
def bM:List CK→List Value→List Value→Option Bool
 | [], [], []=>some true
 |c::cs,x::xs,y::ys=>(fV c x y).bind fun b=>(bM cs xs ys).map (b&&·)
 |_,_,_=>none
def rF (mx:Bool):Value→Value→Option Value
 |.int k x,.int _ y=>some (.int k (if mx then (if y>x then y else x) else (if y<x then y else x)))
 |_,_=>none
def tZ (s:Bool) (ks:List CK) (a b:Value):Option Bool:=
 if s then match a,b with
  |.agg xs,.agg ys=>bM ks xs.toList ys.toList
  |_,_=>none
 else bM ks [a] [b]
def aTq:CK→Value→Bool
 |.i,.int _ _=>true
 |.s,.string _=>true
 |.b,.bool _=>true
 |_,_=>false
def fZ:List CK→List Value→Bool
 | [], []=>true
 |c::cs,v::vs=>aTq c v&&fZ cs vs
 |_,_=>false
def aA2 (s:Bool) (ks:List CK) (v:Value):Bool:=
 if s then match v with
  |.agg xs=>fZ ks xs.toList
  |_=>false
 else fZ ks [v]
def gJ (s:Bool) (ks:List CK) (k:Value):List MapEntry→Nat→Option (Option (Nat × Value))
 | [],_=>some none
 |e::es,i=>match tZ s ks k e.key with
  |some true=>some (some (i,e.val))
  |some false=>gJ s ks k es (i+1)
  |none=>none
inductive KOp where
 |move (x:Operand)
 |pick (c a b:Operand)
 |fieldAddr (off:Nat) (x:Operand)
 |indexAddr (size:Nat) (x i:Operand)
 |field (off:Nat) (x:Operand)
 |fieldN (off n:Nat) (x:Operand)
 |extract (i:Nat) (x:Operand)
 |indexStr (x i:Operand)
 |not (x:Operand)
 |nilCheck (x:Operand)
 |nilM (mo:TypeId→Value→String→Bool) (x:Operand)
 |bin (op:BinOp) (x y:Operand)
 |eqNil (neg:Bool) (d:EqK) (x y:Operand)
 |eqAgg (neg:Bool) (ks:List CK) (x y:Operand)
 |len (str:Bool) (x:Operand)
 |conv (k:IntKind) (x:Operand)
 |idStr (x:Operand)
 |sliceStr (x:Operand) (lo hi:Option Operand)
 |sliceSl (size:Nat) (x:Operand) (lo hi:Option Operand)
 |makeFunc (fn:Fn) (first captured:List Operand)
 |iface (t:TypeId) (x:Operand)
 |build (zero:List Value) (parts:List (Nat × Nat × Operand))
 |load (x:Operand)
 |loadN (n:Nat) (x:Operand)
 |lenMap (x:Operand)
 |lookup (s:Bool) (ks:List CK) (zero:Value) (ok:Bool) (m k:Operand)
 |minmax (mx:Bool) (x:Operand) (ys:List Operand)
 |unNeg (xr:Bool) (x:Operand)
 |box (t:TypeId) (x:Operand)
 |alloc (t:TypeId) (zero:List Value)
 |store (x y:Operand)
 |storeN (n:Nat) (x y:Operand)
 |call (f:FuncId) (args:List Operand)
 |callV (x:Operand) (args:List Operand)
 |mapUpdate (s:Bool) (ks:List CK) (m k v:Operand)
 |mapEntry (s:Bool) (ks:List CK) (zero:Value) (m k:Operand)
 |entryStore (m st v:Operand)
 |delete (s:Bool) (ks:List CK) (m k:Operand)
 |makeMap
 |rangeMap (x:Operand)
 |nextMap (it:Operand)
 |entry (it:Operand)
 |buildSlice (t:TypeId) (ln:Nat) (zeros:List Value) (parts:List (Nat × Nat × Operand))
 |append (t:TypeId) (size bytes:Nat) (zero:List Value) (x y:Operand)
 |makeSlice (t:TypeId) (size bytes:Nat) (zero:List Value) (ln cap:Operand)
 |copy (size:Nat) (x y:Operand)
 |bytesOf (t:TypeId) (x:Operand)
 |strOf (x:Operand)
 |pcall (f:FuncId) (F:List Value→Option Value) (args:List Operand)
 |dead
 |capOf (x:Operand)
 |indexArr (size ln:Nat) (x i:Operand)
 |indexAgg (ln:Nat) (x i:Operand)
 |invoke (x:Operand) (name:String) (args:List Operand)
 |assert (ifc:Bool) (ts:List TypeId) (n:Nat) (zero:Value) (ok:Bool) (x:Operand)
 |eqIface (neg:Bool) (ts:List TypeId) (x y:Operand)
 |raw (o:Oper)
def kB (e:Operand→Value):List Value→List (Nat × Nat × Operand)→Option (List Value)
 |cs, []=>some cs
 |cs,(off,n,x)::r=>if (e x).cells.size=n then kB e (cs.take off++(e x).cells.toList++cs.drop (off+n)) r else none
def yV (ifc:Bool) (ts:List TypeId) (n:Nat) (zero:Value) (ok:Bool):Value→Option Value
 |.nilIface=>if ok then some (.tuple #[zero,.bool false]) else none
 |.iface t v=>if ts.contains t then some (if ok then .tuple #[if ifc then .iface t v else v,.bool true] else if ifc then .iface t v else v)
  else if ok∧(ifc=true→t<n) then some (.tuple #[zero,.bool false]) else none
 |_=>none
def nV (ts:List TypeId):Value→Value→Option Bool
 |.nilIface,.iface _ _=>some false
 |.iface _ _,.nilIface=>some false
 |.iface t a,.iface u b=>if t=u then (if ts.contains t then fV .i a b else none) else some false
 |_,_=>none
def mF (P:Program) (t:TypeId) (v:Value) (name:String):Option (FuncId × Value):=
 match P.info? t,P.underlying t with
 |some i,some d=>match i.methods.find? (·.name==name) with
  |some m=>match m.path.toList,m.func,d with
   | [],some (f,true),.pointer _=>some (f,v)
   | [],some (_,true),_=>none
   | [],some (_,false),.pointer _=>none
   | [],some (f,false),_=>some (f,v)
   |_,_,_=>none
  |none=>none
 |_,_=>none
def aM2 (P:Program) (t:TypeId) (v:Value) (name:String):Bool:=(mF P t v name).isSome
def KOp.fix (ρ : Env) : KOp → Option Value
  | .move x => some (ev ρ x)
  | .pick c a b => match ev ρ c with
    | .bool t => some (if t then ev ρ a else ev ρ b)
    | _ => none
  | .fieldAddr off x => match ev ρ x with
    | .pointer (some a) => some (.pointer (some (a.add off)))
    | _ => none
  | .indexAddr size x i => match ev ρ x, ev ρ i with
    | .slice (some a) ln _, .int _ n => if 0 ≤ n ∧ n < (ln : Int) then some (.pointer (some (a.add (n.toNat * size)))) else none
    | _, _ => none
  | .capOf x => match ev ρ x with
    | .slice _ _ c => some (.int .i64 c)
    | _ => none
  | .indexArr size ln x i => match ev ρ x, ev ρ i with
    | .pointer (some a), .int _ n => if 0 ≤ n ∧ n < (ln : Int) then some (.pointer (some (a.add (n.toNat * size)))) else none
    | _, _ => none
  | .indexAgg ln x i => match ev ρ x, ev ρ i with
    | .agg cs, .int _ n => if 0 ≤ n ∧ n < (ln : Int) then cs[n.toNat]? else none
    | _, _ => none
  | .field off x => match ev ρ x with
    | .agg cs => cs[off]?
    | _ => none
  | .fieldN off n x => match ev ρ x with
    | .agg cs => some (.agg (cs.extract off (off + n)))
    | _ => none
  | .extract i x => match ev ρ x with
    | .tuple vs => vs[i]?
    | _ => none
  | .indexStr x i => match ev ρ x, ev ρ i with
    | .string s, .int _ n => if 0 ≤ n then (s[n.toNat]?).map fun b => .int .u8 b.toNat else none
    | _, _ => none
  | .not x => match ev ρ x with
    | .bool b => some (.bool (!b))
    | _ => none
  | .nilCheck x => match ev ρ x with
    | .pointer (some a) => some (.pointer (some a))
    | _ => none
  | .nilM mo x => match ev ρ x with
    | .func (.method name) first captured => match (first[0]? : Option Value) with
      | some (.iface t v) => if mo t v name then some (.func (.method name) first captured) else none
      | _ => none
    | _ => none
  | .bin op x y => bL op (ev ρ x) (ev ρ y)
  | .minmax mx x ys => ys.foldl (fun acc y => acc.bind fun a => rF mx a (ev ρ y)) (some (ev ρ x))
  | .unNeg xr x => match ev ρ x with
    | .int k n => if xr then cP .xor k (if k.signed then -1 else k.max) n else cP .sub k 0 n
    | _ => none
  | .eqNil neg d x y => (yY d (ev ρ x) (ev ρ y)).map fun b => .bool (if neg then !b else b)
  | .eqAgg neg ks x y => match ev ρ x, ev ρ y with
    | .agg xs, .agg ys => (bM ks xs.toList ys.toList).map fun b => .bool (if neg then !b else b)
    | _, _ => none
  | .len true x => match ev ρ x with
    | .string s => some (.int .i64 s.size)
    | _ => none
  | .len false x => match ev ρ x with
    | .slice _ n _ => some (.int .i64 n)
    | _ => none
  | .conv k x => match ev ρ x with
    | .int _ n => some (.int k (k.wrap n))
    | _ => none
  | .idStr x => match ev ρ x with
    | .string s => some (.string s)
    | _ => none
  | .sliceStr x lo hi => match ev ρ x with
    | .string s =>
      (match hi with
       | none => some s.size
       | some h => match ev ρ h with
         | .int _ n => if 0 ≤ n ∧ n ≤ (s.size : Int) then some n.toNat else none
         | _ => none).bind fun h =>
      (match lo with
       | none => some 0
       | some l => match ev ρ l with
         | .int _ n => if 0 ≤ n ∧ n ≤ (h : Int) then some n.toNat else none
         | _ => none).map fun l => .string (s.extract l h)
    | _ => none
  | .sliceSl size x lo hi => match ev ρ x with
    | .slice a ln cap =>
      (match hi with
       | none => some ln
       | some h => match ev ρ h with
         | .int _ n => if 0 ≤ n ∧ n ≤ (cap : Int) then some n.toNat else none
         | _ => none).bind fun h =>
      (match lo with
       | none => some 0
       | some l => match ev ρ l with
         | .int _ n => if 0 ≤ n ∧ n ≤ (h : Int) then some n.toNat else none
         | _ => none).map fun l => .slice (if cap = l then a else a.map (fun ad : Addr => ad.add (l * size))) (h - l) (cap - l)
    | _ => none
  | .makeFunc fn first captured => some (.func fn (first.map (ev ρ)).toArray (captured.map (ev ρ)).toArray)
  | .iface t x => some (.iface t (ev ρ x))
  | .assert ifc ts n zero ok x => yV ifc ts n zero ok (ev ρ x)
  | .eqIface neg ts x y => (nV ts (ev ρ x) (ev ρ y)).map fun b => .bool (if neg then !b else b)
  | .build zero parts =>
    (kB (ev ρ) zero parts).map fun cs => .agg cs.toArray
  | _ => none
def rdCells (w:World) (a:Addr):Nat→Nat→Option (List Value)
 |_,0=>some []
 |i,n+1=>(w.cell? (a.add i)).bind fun v=>(rdCells w a (i+1) n).map (v::·)
def KOp.rd (ρ:Env) (w:World):KOp→Option Value
 |.load x=>match ev ρ x with
  |.pointer (some a)=>w.cell? a
  |_=>none
 |.loadN n x=>match ev ρ x with
  |.pointer (some a)=>(rdCells w a 0 n).map fun l=>.agg l.toArray
  |_=>none
 |.pcall _ F args=>F (args.map (ev ρ))
 |.lenMap x=>match ev ρ x with
  |.map none=>some (.int .i64 0)
  |.map (some r)=>match w.heap[r]? with
   |some (.map es _)=>some (.int .i64 es.size)
   |_=>none
  |_=>none
 |.lookup s ks zero ok m k=>if aA2 s ks (ev ρ k) then match ev ρ m with
  |.map none=>some (if ok then .tuple #[zero,.bool false] else zero)
  |.map (some r)=>match w.heap[r]? with
   |some (.map es _)=>(gJ s ks (ev ρ k) es.toList 0).map fun f=>match f with
    |some (_,v)=>if ok then .tuple #[v,.bool true] else v
    |none=>if ok then .tuple #[zero,.bool false] else zero
   |_=>none
  |_=>none
  else none
 |o=>o.fix ρ
def KOp.isFix:KOp→Bool
 |.load ..|.loadN ..|.lenMap ..|.lookup ..|.box ..|.alloc ..|.store ..|.storeN ..|.call ..|.callV ..|.invoke ..|.raw ..|.dead|.pcall ..=>false
 |.mapUpdate ..|.mapEntry ..|.entryStore ..|.delete ..|.makeMap|.rangeMap ..|.nextMap ..|.entry ..|.buildSlice ..|.append ..|.makeSlice ..|.copy ..|.bytesOf ..|.strOf ..=>false
 |_=>true
def KOp.isStill:KOp→Bool
 |.load ..|.loadN ..|.lenMap ..|.lookup ..|.pcall ..=>true
 |o=>o.isFix
def KOp.isMaker:KOp→Bool
 |.box ..|.alloc ..=>true
 |_=>false
theorem KOp.rd_fix {ρ:Env} {w:World} {o:KOp} (h:o.isFix=true):o.rd ρ w=o.fix ρ:=by cases o<;>simp_all [isFix,rd]
def KOp.isPc:KOp→Bool
 |.pcall ..=>true
 |_=>false
def gC (w:World) (a:Addr):Nat→List Value→World
 |_, []=>w
 |i,v::vs=>gC (w.setCell (a.add i) v) a (i+1) vs
def aHn (w:World) (a:Addr) (i n:Nat):Prop:=∀j,i≤j→j<i+n→(w.cell? (a.add j)).isSome=true∧w.frozen? (a.add j)=false
def dB (P:Program) (f:FuncId):Bool:=match P.funcs[f]? with
 |some fn=>fn.body.isSome&&!(fn.name== "runtime.NumGoroutine")
 |none=>false
def cL (w:World) (r:Nat) (o:Obj):World:={w with heap:=w.heap.setIfInBounds r o}
def fR (es:Array MapEntry) (clock:Nat) (k v:Value):Option (Nat × Value)→Array MapEntry × Nat
 |some (i,_)=>(es.modify i fun e=>{e with key:=k,val:=v},clock)
 |none=>(es.push {key:=k,val:=v,born:=clock},clock+1)
def iT (s:ByteArray):List Value:=s.data.toList.map fun b=>.int .u8 b.toNat
def zeros (zero:List Value):Nat→List Value
 |0=> []
 |n+1=>zero++zeros zero n
def cA (w:World) (size:Nat):Value→Option (Nat × List Value)
 |.slice (some a) n _=>(rdCells w a 0 (n*size)).map fun l=>(n,l)
 |.slice none n _=>some (n, [])
 |.string s=>some (s.size,iT s)
 |_=>none
def KOp.wp (P : Program) (ρ : Env) (w : World) (k : Value → World → Prop) : KOp → Prop
  | .box t x => k (.pointer (some ⟨w.heap.size, 0, none⟩)) (w.alloc (.cells (ev ρ x).cells t))
  | .alloc t zero => k (.pointer (some ⟨w.heap.size, 0, none⟩)) (w.alloc (.cells zero.toArray t))
  | .store x y => ∃ a, ev ρ x = .pointer (some a) ∧ (ev ρ y).oneCell' = true ∧ (w.cell? a).isSome = true ∧ w.frozen? a = false ∧ k undef (w.setCell a (ev ρ y))
  | .storeN n x y => ∃ a vs, ev ρ x = .pointer (some a) ∧ ev ρ y = .agg vs ∧ vs.size = n ∧ (∀ v ∈ vs.toList, v.oneCell' = true) ∧ aHn w a 0 n ∧ k undef (gC w a 0 vs.toList)
  | .call f args => Calls P f (args.map (ev ρ)).toArray w fun e w' => ∃ v, e = .returned v ∧ k v w'
  | .callV x args => ∃ f first cap, ev ρ x = .func (.func f) first cap ∧ dB P f = true ∧ Calls P f (first ++ (args.map (ev ρ)).toArray ++ cap) w fun e w' => ∃ v, e = .returned v ∧ k v w'
  | .invoke x name args => ∃ t v f rv, ev ρ x = .iface t v ∧ mF P t v name = some (f, rv) ∧ dB P f = true ∧ Calls P f (rv :: args.map (ev ρ)).toArray w fun e w' => ∃ v, e = .returned v ∧ k v w'
  | .mapUpdate s ks m kk v => ∃ r es clock f, ev ρ m = .map (some r) ∧ w.heap[r]? = some (.map es clock) ∧ aA2 s ks (ev ρ kk) = true ∧ gJ s ks (ev ρ kk) es.toList 0 = some f ∧
      k undef (cL w r (.map (fR es clock (ev ρ kk) (ev ρ v) f).1 (fR es clock (ev ρ kk) (ev ρ v) f).2))
  | .mapEntry s ks zero m kk => ∃ r es clock f, ev ρ m = .map (some r) ∧ w.heap[r]? = some (.map es clock) ∧ aA2 s ks (ev ρ kk) = true ∧ gJ s ks (ev ρ kk) es.toList 0 = some f ∧
      match f with
      | some (i, v) => k (.tuple #[v, .int .i64 (((es[i]?).map (·.born)).getD 0 : Nat)]) (cL w r (.map (es.modify i fun e => { e with key := ev ρ kk }) clock))
      | none => k (.tuple #[zero, .int .i64 (clock : Nat)]) (cL w r (.map (es.push { key := ev ρ kk, val := zero, born := clock }) (clock + 1)))
  | .entryStore m st v => ∃ r es clock kd n i, ev ρ m = .map (some r) ∧ w.heap[r]? = some (.map es clock) ∧ ev ρ st = .int kd n ∧ es.findIdx? (fun e => (e.born : Int) == n) = some i ∧
      k undef (cL w r (.map (es.modify i fun e => { e with val := ev ρ v }) clock))
  | .delete s ks m kk => ∃ r es clock f, ev ρ m = .map (some r) ∧ w.heap[r]? = some (.map es clock) ∧ aA2 s ks (ev ρ kk) = true ∧ gJ s ks (ev ρ kk) es.toList 0 = some f ∧
      k (.tuple #[]) (cL w r (.map (match f with | some (i, _) => es.eraseIdxIfInBounds i | none => es) clock))
  | .makeMap => k (.map (some w.heap.size)) (w.alloc (.map #[] 0))
  | .rangeMap x => ∃ r es clock, ev ρ x = .map (some r) ∧ w.heap[r]? = some (.map es clock) ∧ k (.pointer (some ⟨w.heap.size, 0, none⟩)) (w.alloc (.mapIter (some r) clock #[] clock))
  | .nextMap it => ∃ b m since seen last es clock, ev ρ it = .pointer (some ⟨b, 0, none⟩) ∧ w.heap[b]? = some (.mapIter (some m) since seen last) ∧ w.heap[m]? = some (.map es clock) ∧
      (∀ e ∈ es, e.born < since) ∧ clock = last ∧ (seen.isEmpty = true ∨ es.isEmpty = true ∨ ∃ e ∈ es, e.born < last) ∧
      ((es.filter fun e => !seen.contains e.born).isEmpty = true → ∀ w', (w' = w ∨ w' = w.drew) → k (.tuple #[.bool false]) w') ∧
      ∀ e ∈ es.filter (fun e => !seen.contains e.born), ∀ w', (w' = w ∨ w' = w.drew) → k (.tuple #[.bool true, e.key, e.val]) (cL w' b (.mapIter (some m) since (seen.push e.born) clock))
  | .entry it => ∃ b m since seen stepped st es e, ev ρ it = .pointer (some ⟨b, 0, none⟩) ∧ w.heap[b]? = some (.mapIter (some m) since seen stepped) ∧ seen.back? = some st ∧ w.heap[m]? = some (.map es stepped) ∧
      es.find? (·.born == st) = some e ∧ k (.tuple #[e.key, e.val]) w
  | .buildSlice t ln zs ps => ∃ cs, kB (ev ρ) zs ps = some cs ∧ k (.slice (some ⟨w.heap.size, 0, none⟩) ln ln) (w.alloc (.cells cs.toArray t))
  | .append t size bytes zero x y => ∃ base sLen sCap n new, ev ρ x = .slice base sLen sCap ∧ cA w size (ev ρ y) = some (n, new) ∧
      ((sLen + n ≤ sCap → match base with
        | some a => (∀ v ∈ new, v.oneCell' = true) ∧ aHn w (a.add (sLen * size)) 0 new.length ∧ k (.slice base (sLen + n) sCap) (gC w (a.add (sLen * size)) 0 new)
        | none => k (.slice base (sLen + n) sCap) w) ∧
       (sCap < sLen + n → ∃ old, cA w size (.slice base sLen sCap) = some (sLen, old) ∧ Builtin.nextslicecap (sLen + n) sCap * bytes ≤ 2 ^ 48 ∧
          ∀ c, sLen + n ≤ c → k (.slice (some ⟨w.heap.size, 0, none⟩) (sLen + n) c) (w.drew.alloc (.cells (old ++ new ++ zeros zero (c - (sLen + n))).toArray t))))
  | .makeSlice t _ bytes zero ln cap => ∃ kd ke l c, ev ρ ln = .int kd l ∧ ev ρ cap = .int ke c ∧ 0 ≤ l ∧ l ≤ c ∧ c ≤ 2 ^ 62 ∧ bytes * c ≤ 2 ^ 48 ∧
      k (.slice (some ⟨w.heap.size, 0, none⟩) l.toNat c.toNat) (w.alloc (.cells (zeros zero c.toNat).toArray t))
  | .copy size x y => ∃ base dLen cap n new, ev ρ x = .slice base dLen cap ∧ cA w size (ev ρ y) = some (n, new) ∧
      ((∃ a m c, ev ρ y = .slice a m c) ∨ size = 1) ∧ (∀ v ∈ new, v.oneCell' = true) ∧ (∀ a, base = some a → aHn w a 0 (min n dLen * size)) ∧
      k (.int .i64 (min n dLen : Nat)) (match base with | some a => gC w a 0 (new.take (min n dLen * size)) | none => w)
  | .bytesOf t x => ∃ s, ev ρ x = .string s ∧ ∀ c, s.size ≤ c → ∀ w', (∀ b, b < w.heap.size → w'.heap[b]? = w.heap[b]?) → w'.heap.size = w.heap.size + 1 → w'.tape = w.tape → w'.os = w.os → w'.output = w.output →
      (∃ fz, w'.heap[w.heap.size]? = some (.cells (iT s ++ List.replicate (c - s.size) (Value.int .u8 0)).toArray t fz)) → k (.slice (some ⟨w.heap.size, 0, none⟩) s.size c) w'
  | .strOf x => ∃ a n c bs, ev ρ x = .slice a n c ∧ cA w 1 (ev ρ x) = some (n, List.map (fun b : UInt8 => Value.int .u8 b.toNat) bs) ∧ k (.string ⟨bs.toArray⟩) w
  | .dead => False
  | .raw o => match (execOp (ev ρ) o).run P w with
    | .ok (.value v) w' => k v w'
    | .ok .skip w' => k undef w'
    | .ok (.enter f args) w' => Calls P f args w' fun e w'' => ∃ v, e = .returned v ∧ k v w''
    | _ => False
  | o => ∃ v, o.rd ρ w = some v ∧ k v w
def lE (P:Program) (t:TypeId):Option (Option Nat):=
 match P.underlying t,P.info? t with
 |some (.struct _),some i|some (.array _ _),some i=>some (some i.size)
 |some _,some _=>some none
 |_,_=>none
def aDt (P:Program) (t:TypeId) (i:Nat):Option Field:=
 match P.underlying t with
 |some (.struct fs)=>fs[i]?
 |_=>none
def fC (P:Program):Nat→TypeId→Option (List CK)
 |0,_=>none
 |d+1,t=>match P.underlying t with
  |some .bool=>some [.b]
  |some (.int _)=>some [.i]
  |some .string=>some [.s]
  |some (.struct fs)=>if P.stoodInHeld t then none else
   fs.toList.foldl (fun acc f=>acc.bind fun ks=>(fC P d f.type).bind fun l=>if f.name≠ "_" ∧f.offset=ks.length∧(P.info? f.type).map (·.size)=some l.length then some (ks++l) else none) (some [])
  |_=>none
def places (P:Program):List Field→Option (List (Nat × Nat))
 | []=>some []
 |f::r=>(P.info? f.type).bind fun inf=>(places P r).map ((f.offset,inf.size)::·)
def placesOf (P:Program) (t:TypeId):Option (List (Nat × Nat)):=
 match P.underlying t with
 |some (.struct fs)=>places P fs.toList
 |_=>none
def jP (pl:List (Nat × Nat)):List (Nat × Operand)→Option (List (Nat × Nat × Operand))
 | []=>some []
 |(i,x)::r=>(pl[i]?).bind fun p=>(jP pl r).map ((p.1,p.2,x)::·)
def aP6 (P:Program) (t:TypeId):Option Nat:=
 match P.underlying t with
 |some (.array _ e)=>(P.info? e).map (·.size)
 |_=>none
def zeroOf (P:Program) (t:TypeId):Option Value:=(P.info? t).bind (·.zero)
def keyOf (P:Program) (t:TypeId):Option (Bool × List CK × TypeId):=
 match P.underlying t with
 |some (.map k e)=>(fC P 20 k).map fun ks=>((match P.underlying k with|some (.struct _)=>true|_=>false),ks,e)
 |_=>none
def aTr (want:Array (String × TypeId)) (got:Array Method):Bool:=want.toList.any fun (name,sig)=>!got.any fun m=>m.name==name&&m.sig==sig
theorem aFg {l:List String}:Instr.least l=none↔l= []:=by cases l<;>simp [Instr.least]
theorem aAb {want:Array (String × TypeId)} {got:Array Method}:Instr.missingMethod want got=none↔aTr want got=false:=by
 unfold Instr.missingMethod aTr
 generalize hl:((want.toList.filter fun (name,sig)=>!got.any fun m=>m.name==name&&m.sig==sig).map (·.1))=l
 have h1:(want.toList.any fun (name,sig)=>!got.any fun m=>m.name==name&&m.sig==sig)=false↔l= []:=by
  rw [←hl,List.map_eq_nil_iff,List.filter_eq_nil_iff,List.any_eq_false]
 rw [h1]
 dsimp only
 rw [List.partition_eq_filter_filter]
 dsimp only
 constructor
 ·intro h
  cases l with
  |nil=>rfl
  |cons a l=>
   cases hc:a.contains (Char.ofNat 46) with
   |true=>
    cases h2:Instr.least (List.filter (not ∘ fun x:String=>x.contains (Char.ofNat 46)) (a::l)) with
    |some x=>rw [h2] at h;cases h
    |none=>
     rw [h2] at h
     have h:Instr.least _=none:=h
     rw [aFg,List.map_eq_nil_iff,List.filter_eq_nil_iff] at h
     exact absurd hc (h a (by simp))
   |false=>
    cases h2:Instr.least (List.filter (not ∘ fun x:String=>x.contains (Char.ofNat 46)) (a::l)) with
    |some x=>rw [h2] at h;cases h
    |none=>
     rw [aFg,List.filter_eq_nil_iff] at h2
     exact absurd (show (!a.contains (Char.ofNat 46))=true by rw [hc];rfl) (h2 a (by simp))
 ·rintro rfl
  rfl
def uM (P:Program) (a:TypeId):List TypeId:=match P.underlying a with
 |some (.interface want)=>(List.range P.types.size).filter fun t=>match P.info? t with
  |some i=>!aTr want i.methods
  |none=>false
 |_=> []
def aAm (P:Program):List TypeId:=(List.range P.types.size).filter fun t=>match P.info? t,P.underlying t with
 |some i,some (.int _)=>i.comparable
 |_,_=>false
class Quiet (P:Program) where
 tab:FuncId→Option (List Value→Option Value)
 ok:∀f F args v w,tab f=some F→F args=some v→Calls P f args.toArray w fun e w'=>e=.returned v∧w'=w
def aC (P:Program) [Quiet P] (o:Oper):KOp:=
 match o.op with
 |.move x|.assign x=>.move x
 |.pick c a b=>.pick c a b
 |.fieldAddr t x i=>match aDt P t i with
  |some f=>match P.info? f.type with
   |some inf=>if inf.size=0 then .raw o else .fieldAddr f.offset x
   |none=>.raw o
  |none=>.raw o
 |.indexAddr t x i=>match P.underlying t with
  |some (.slice e)=>match P.info? e with
   |some inf=>.indexAddr inf.size x i
   |none=>.raw o
  |some (.array n e)=>match P.info? e with
   |some inf=>.indexArr inf.size n x i
   |none=>.raw o
  |_=>.raw o
 |.field t x i=>match aDt P t i with
  |some f=>match lE P f.type with
   |some (some n)=>.fieldN f.offset n x
   |some none=>.field f.offset x
   |none=>.raw o
  |none=>.raw o
 |.extract x i=>.extract i x
 |.index t x i=>match P.underlying t with
  |some .string=>.indexStr x i
  |some (.array n e)=>match lE P e,P.info? e with
   |some none,some inf=>if inf.size=1 then .indexAgg n x i else .raw o
   |_,_=>.raw o
  |_=>.raw o
 |.unOp .not _ x=>.not x
 |.unOp .neg _ x=>.unNeg false x
 |.unOp .xor _ x=>.unNeg true x
 |.nilCheck x=>if Nat.beq o.type 0=true then .nilCheck x else match P.underlying o.type with
  |some (.func _ _ _)=>.nilM (aM2 P) x
  |_=>.nilCheck x
 |.binOp op t x y _=>
  if op=.eql∨op=.neq then
   match P.underlying t with
   |some (.int _)|some .string=>.bin op x y
   |some (.struct _)=>if P.eqGuardType P.depth t then .raw o else (match fC P 20 t with|some n=>.eqAgg (op=.neq) n x y|none=>.raw o)
   |some d=>match eqK d with
    |some .iface=>if Region.isConst x||Region.isConst y then .eqNil (op=.neq) .iface x y else .eqIface (op=.neq) (aAm P) x y
    |some k=>.eqNil (op=.neq) k x y
    |none=>.raw o
   |none=>.raw o
  else .bin op x y
 |.convert s d x=>match P.underlying s,P.underlying d with
  |some _,some (.int k)=>.conv k x
  |some .string,some .string=>.idStr x
  |some .string,some (.slice e)=>match P.underlying e with
   |some (.int .u8)=>.bytesOf e x
   |_=>.raw o
  |some (.slice e),some .string=>match P.underlying e with
   |some (.int .u8)=>.strOf x
   |_=>.raw o
  |_,_=>.raw o
 |.slice t x lo hi none=>match P.underlying t with
  |some .string=>.sliceStr x lo hi
  |some (.slice e)=>match P.info? e with
   |some inf=>.sliceSl inf.size x lo hi
   |none=>.raw o
  |_=>.raw o
 |.makeFunc fn f c=>.makeFunc fn f.toList c.toList
 |.makeInterface t x=>match P.underlying t with
  |some (.interface _)=>.raw o
  |some _=>.iface t x
  |none=>.raw o
 |.build t parts=>match P.info? t with
  |some inf=>match inf.zero with
   |some z=>match (placesOf P t).bind fun pl=>jP pl parts.toList with
    |some ps=>if ps.all (fun p=>p.1+p.2.1≤z.cells.size) then .build z.cells.toList ps else .raw o
    |none=>match aP6 P t with
     |some sz=>if parts.toList.all (fun p=>p.1*sz+sz≤z.cells.size) then .build z.cells.toList (parts.toList.map fun p=>(p.1*sz,sz,p.2)) else .raw o
     |none=>.raw o
   |none=>.raw o
  |none=>.raw o
 |.load t x=>match lE P t with
  |some (some n)=>.loadN n x
  |some none=>.load x
  |none=>.raw o
 |.box t x=>.box t x
 |.alloc t=>match P.info? t with
  |some inf=>match inf.zero with
   |some z=>.alloc t z.cells.toList
   |none=>.raw o
  |none=>.raw o
 |.store t x y=>match lE P t,P.info? t with
  |some (some n),_=>.storeN n x y
  |some none,some inf=>if inf.size=1 then .store x y else .raw o
  |_,_=>.raw o
 |.panic _=>.dead
 |.call {callee:=.value (.func f),args,..}=>if dB P f then (match Quiet.tab P f with
  |some F=>.pcall f F args.toList
  |none=>.call f args.toList) else .raw o
 |.call {callee:=.value (.tmp t),args,..}=>.callV (.tmp t) args.toList
 |.call {callee:=.invoke x name,args,..}=>.invoke x name args.toList
 |.typeAssert x _ a ok=>match P.underlying a,zeroOf P a with
  |some (.interface _),some z=>.assert true (uM P a) P.types.size z ok x
  |some _,some z=>.assert false [a] 0 z ok x
  |_,_=>.raw o
 |.call {callee:=.builtin .len,args,argTypes}=>match args.toList,argTypes.toList with
  | [x], [t]=>match P.underlying t with
   |some .string=>.len true x
   |some (.slice _)=>.len false x
   |some (.map _ _)=>.lenMap x
   |_=>.raw o
  |_,_=>.raw o
 |.lookup t m k ok=>match keyOf P t with
  |some (s,ks,e)=>match zeroOf P e with
   |some z=>.lookup s ks z ok m k
   |none=>.raw o
  |none=>.raw o
 |.mapUpdate t m k v=>match keyOf P t with
  |some (s,ks,_)=>.mapUpdate s ks m k v
  |none=>.raw o
 |.mapEntry t m k=>match keyOf P t with
  |some (s,ks,e)=>match zeroOf P e with
   |some z=>.mapEntry s ks z m k
   |none=>.raw o
  |none=>.raw o
 |.entryStore _ m s v=>.entryStore m s v
 |.makeMap _ none=>.makeMap
 |.range t x=>match P.underlying t with
  |some (.map _ _)=>.rangeMap x
  |_=>.raw o
 |.next it false=>.nextMap it
 |.entry it=>.entry it
 |.buildSlice t ln parts=>match P.underlying t with
  |some (.slice e)=>match P.info? e,zeroOf P e with
   |some inf,some z=>
    if ln*inf.size≤2^24∧z.cells.size=inf.size∧0<inf.size∧parts.toList.all (fun p=>(p.1+1)*inf.size≤ln*inf.size) then
     .buildSlice e ln (zeros z.cells.toList ln) (parts.toList.map fun p=>(p.1*inf.size,inf.size,p.2))
    else .raw o
   |_,_=>.raw o
  |_=>.raw o
 |.makeSlice t l c=>match P.underlying t with
  |some (.slice e)=>match P.info? e,zeroOf P e with
   |some inf,some z=>if z.cells.size=inf.size∧0<inf.size then .makeSlice e inf.size inf.bytes z.cells.toList l c else .raw o
   |_,_=>.raw o
  |_=>.raw o
 |.call {callee:=.builtin .delete,args,argTypes}=>match args.toList,argTypes.toList with
  | [m,k],t::_=>match keyOf P t with
   |some (s,ks,_)=>.delete s ks m k
   |none=>.raw o
  |_,_=>.raw o
 |.call {callee:=.builtin .cap,args,argTypes}=>match args.toList,argTypes.toList with
  | [x], [t]=>match P.underlying t with
   |some (.slice _)=>.capOf x
   |_=>.raw o
  |_,_=>.raw o
 |.call {callee:=.builtin .append,args,argTypes}=>match args.toList,argTypes.toList with
  | [x,y], [t,u]=>match P.underlying t,P.underlying u with
   |some (.slice _),some (.int _)=>.raw o
   |some (.slice e),some _=>match P.info? e,zeroOf P e with
    |some inf,some z=>if z.cells.size=inf.size∧0<inf.size∧inf.bytes≠0 then .append e inf.size inf.bytes z.cells.toList x y else .raw o
    |_,_=>.raw o
   |_,_=>.raw o
  |_,_=>.raw o
 |.call {callee:=.builtin .copy,args,argTypes}=>match args.toList,argTypes.toList with
  | [x,y],t::_=>match P.underlying t with
   |some (.slice e)=>match P.info? e with
    |some inf=>.copy inf.size x y
    |none=>.raw o
   |_=>.raw o
  |_,_=>.raw o
 |.call {callee:=.builtin .min,args,..}=>match args.toList with
  |x::ys=>.minmax false x ys
  | []=>.raw o
 |.call {callee:=.builtin .max,args,..}=>match args.toList with
  |x::ys=>.minmax true x ys
  | []=>.raw o
 |_=>.raw o
end
section
open Go
variable {P:Program} {ρ:Env} {w:World}
theorem aA {t:TypeId} {d:TypeDesc} (h:P.underlying t=some d) (w:World):(underlying t).run P w=.ok d w:=by
 show (match P.underlying t with|some d=>(pure d:Sem TypeDesc)|none=>stuck _).run P w=_
 rw [h];rfl
theorem aW {t:TypeId} {i:TypeInfo} (h:P.info? t=some i) (w:World):(typeInfo t).run P w=.ok i w:=by
 show (match P.info? t with|some d=>(pure d:Sem TypeInfo)|none=>stuck _).run P w=_
 rw [h];rfl
theorem bI {t:TypeId} {i:TypeInfo} (h:P.info? t=some i) (w:World):(sizeOf t).run P w=.ok i.size w:=by
 simp [sizeOf,aW h]
theorem aAu {t:TypeId} {i:Nat} {f:Field} (h:aDt P t i=some f):∃fs,P.underlying t=some (.struct fs)∧fs[i]? =some f:=by
 unfold aDt at h
 split at h
 ·exact ⟨_,‹_›,h⟩
 ·cases h
theorem lH {t:TypeId} {n:Nat} (h:lE P t=some (some n)) (w:World):(isAgg t).run P w=.ok true w∧(sizeOf t).run P w=.ok n w:=by
 unfold lE at h
 split at h
 ·rename_i i h1 h2;cases h;exact ⟨by simp [isAgg,aA h1],bI h2 w⟩
 ·rename_i i h1 h2;cases h;exact ⟨by simp [isAgg,aA h1],bI h2 w⟩
 ·cases h
 ·cases h
theorem kZ {t:TypeId} (h:lE P t=some none) (w:World):(isAgg t).run P w=.ok false w:=by
 unfold lE at h
 split at h
 ·cases h
 ·cases h
 ·rename_i d i h3 h1 h2
  cases d<;>simp_all [isAgg,aA ‹P.underlying t=some _›]
 ·cases h
theorem add_zero (a:Addr):a.add 0=a:=by simp [Addr.add]
theorem run_loadCellsFrom {a:Addr}:∀(n i:Nat) (acc:Array Value) (l:List Value),rdCells w a i n=some l→(loadCellsFrom a i n acc).run P w=.ok (acc++l.toArray) w
 |0,i,acc,l,h=>by
  simp only [rdCells,Option.some.injEq] at h
  subst h
  simp [loadCellsFrom]
 |n+1,i,acc,l,h=>by
  simp only [rdCells,Option.bind_eq_some_iff,Option.map_eq_some_iff] at h
  obtain ⟨v,hv,r,hr,rfl⟩:=h
  have h2:=run_loadCellsFrom n (i+1) (acc.push v) r hr
  have h1:(load (a.add i)).run P w=.ok v w:=by simp [load,Sem.run,hv]
  simp only [loadCellsFrom,Sem.run_bind,h1,Result.andThen_ok,h2]
  simp
theorem aDs (a b:ByteArray):(a.toList==b.toList)=decide (a=b):=by
 rw [Bool.eq_iff_iff,ByteArray.toList_eq,ByteArray.toList_eq];obtain ⟨⟨x⟩⟩:=a;obtain ⟨⟨y⟩⟩:=b;simp
theorem aJ2 (a b:Int):(a==b)=decide (a=b):=by rw [Bool.eq_iff_iff];simp
theorem aYn (a b:Int):(a !=b)= !decide (a=b):=by rw [Bool.eq_iff_iff];simp
theorem aHw {op : BinOp} {t : TypeId} {x y : Value} {v : Value} (h : bL op x y = some v) : (binOp op t x y).run P w = .ok v w := by
  unfold bL at h
  split at h
  · rename_i k a k' b
    by_cases hs : dJ op = true
    · rw [if_pos hs] at h
      split at h
      · cases h
      · rename_i hb
        cases op <;> simp [dJ] at hs <;> simp only [Option.some.injEq] at h <;> subst h <;> simp [binOp, Op.shift, hb]
    · rw [if_neg hs] at h
      split at h
      · rename_i hk
        subst hk
        cases op <;> simp only [dJ, not_true_eq_false] at hs <;> simp only [cP] at h <;>
          first
          | (simp only [Option.some.injEq] at h; subst h; simp [binOp, Op.intArith, Op.intBits, Op.intCmp, aJ2, aYn]; done)
          | (split at h
             · cases h
             · simp only [Option.some.injEq] at h; subst h; simp [binOp, Op.intDiv, *]; done)
          | cases h
      · cases h
  · rename_i a b
    cases op <;> simp only [aPi] at h <;>
      first
      | (simp only [Option.some.injEq] at h; subst h; simp [binOp, Op.stringOp, aDs]; done)
      | (by_cases hc : ((a.size + b.size : Nat) : Int) > IntKind.i64.max
         · rw [if_pos hc] at h; cases h
         · rw [if_neg hc] at h; simp only [Option.some.injEq] at h; subst h; simp only [binOp, Op.stringOp]; rw [if_neg hc]; rfl)
      | cases h
  · cases h
theorem oK {op:BinOp} {t:TypeId} {x y:Operand} {a b:Value} (h1:∀u v,¬(a=.nilIface∧b=.nilIface)∧¬(a=.agg u∧b=.agg v)):(eqGuard op t x y a b).run P w=.ok () w:=by
 unfold eqGuard
 cases op<;>(try rfl)<;>simp only [Bool.not_true,Bool.false_eq_true,if_false]<;>split
 all_goals first
  |exact absurd ⟨rfl,rfl⟩ (h1 #[] #[]).1
  |exact absurd ⟨rfl,rfl⟩ (h1 _ _).2
  |rfl
theorem aGn {op:BinOp} {t:TypeId} {x y:Operand} {a b:Value} (h1:¬(op=.eql∨op=.neq)):(eqGuard op t x y a b).run P w=.ok () w:=by
 unfold eqGuard
 cases op<;>simp at h1<;>rfl
theorem aGu {op:BinOp} {t:TypeId} {x y:Operand} {a b:Value} (h1:(Region.isConst x||Region.isConst y)=true) (h2:∀u v,¬(a=.agg u∧b=.agg v)):(eqGuard op t x y a b).run P w=.ok () w:=by
 unfold eqGuard
 cases op<;>(try rfl)<;>simp only [Bool.not_true,Bool.false_eq_true,if_false]<;>split
 all_goals first
  |exact absurd ⟨rfl,rfl⟩ (h2 _ _)
  |rfl
  |(cases x<;>cases y<;>simp [Region.isConst] at h1<;>rfl)
theorem aI3 {t:TypeId} {d:TypeDesc} {q:EqK} (hd:P.underlying t=some d) (hq:eqK d=some q) {x y:Value} {r:Bool} (h:yY q x y=some r) (n:Nat):(Op.equalIn (n+1) t x y).run P w=.ok r w:=by
 unfold yY at h
 simp only [Op.equalIn,Sem.run_bind,aA hd w,Result.andThen_ok]
 split at h<;>first|(cases h;done)|(simp only [Option.some.injEq] at h;subst h;cases d<;>simp only [eqK,Option.some.injEq,reduceCtorEq] at hq<;>first|(simp;done)|skip)
theorem aMx {t:TypeId} {d:TypeDesc} {q:EqK} (hd:P.underlying t=some d) (hq:eqK d=some q) {x y:Value} {r:Bool} (h:yY q x y=some r):(Op.equal t x y).run P w=.ok r w:=
 aI3 hd hq h 9999
theorem tK:∀(k1 k2:List CK) (a b c d:List Value) (r:Bool),a.length=k1.length→c.length=k1.length→bM (k1++k2) (a++b) (c++d)=some r→∃r1 r2,bM k1 a c=some r1∧bM k2 b d=some r2∧r=(r1&&r2)
 | [],k2, [],b, [],d,r,_,_,h=>⟨true,r,rfl,h,by simp⟩
 |k::k1,k2,x::a,b,y::c,d,r,hl,hl',h=>by
  simp only [List.cons_append,bM,Option.bind_eq_some_iff,Option.map_eq_some_iff] at h
  obtain ⟨e,he,r',hr',rfl⟩:=h
  obtain ⟨r1,r2,h1,h2,rfl⟩:=tK k1 k2 a b c d r' (by simpa using hl) (by simpa using hl') hr'
  exact ⟨e&&r1,r2,by simp [bM,he,h1],h2,by simp [Bool.and_assoc]⟩
theorem iU:∀(ks:List CK) (a b:List Value) (r:Bool),bM ks a b=some r→a.length=ks.length∧b.length=ks.length
 | [], [], [],_,_=>⟨rfl,rfl⟩
 |k::ks,x::a,y::b,r,h=>by
  simp only [bM,Option.bind_eq_some_iff,Option.map_eq_some_iff] at h
  obtain ⟨e,he,r',hr',rfl⟩:=h
  have:=iU ks a b r' hr'
  simp [this]
 | [], [],_::_,_,h=>by simp [bM] at h
 | [],_::_,_,_,h=>by simp [bM] at h
 |_::_, [],_,_,h=>by simp [bM] at h
 |_::_,_::_, [],_,h=>by simp [bM] at h
def iQ (P:Program) (t:TypeId) (cs:List Value):Value:=
 match P.underlying t with
 |some (.struct _)=>.agg cs.toArray
 |_=>cs.getD 0 undef
theorem dV {t:TypeId} {fs:Array Field} (h:P.underlying t=some (.struct fs)) (cs:List Value):iQ P t cs=.agg cs.toArray:=by unfold iQ;rw [h]
theorem aBq {t:TypeId} {off:Nat} {cs:Array Value} {dd:TypeDesc} (hd:P.underlying t=some dd) (h1:∀f,dd≠.struct f) (h2:∀a b,dd≠.array a b) (hl:off+1≤cs.size):
  (part t cs off).run P w=.ok (iQ P t ((cs.toList.drop off).take 1)) w:=by
 have hlt:off<cs.size:=by omega
 have hag:(isAgg t).run P w=.ok false w:=by
  simp only [isAgg,Sem.run_bind,aA hd w,Result.andThen_ok]
  cases dd<;>first|rfl|exact absurd rfl (h1 _)|exact absurd rfl (h2 _ _)
 simp only [part,Sem.run_bind,hag,Result.andThen_ok,Bool.false_eq_true,if_false,Array.getElem?_eq_getElem hlt]
 have hv:iQ P t ((cs.toList.drop off).take 1)=cs[off]:=by
  unfold iQ
  rw [hd]
  cases dd<;>first|exact absurd rfl (h1 _)|(simp [List.getElem?_drop,hlt])
 rw [hv];rfl
theorem wN {t:TypeId} {ks:List CK} {off:Nat} {d:Nat} {cs:Array Value} (hf:fC P d t=some ks) (hs:(P.info? t).map (·.size)=some ks.length) (hl:off+ks.length≤cs.size):
  (part t cs off).run P w=.ok (iQ P t ((cs.toList.drop off).take ks.length)) w:=by
 cases d with
 |zero=>cases hf
 |succ d=>
  obtain ⟨i,hi,hik⟩:=Option.map_eq_some_iff.1 hs
  simp only [fC] at hf
  split at hf
  ·injection hf with hf;subst hf;exact aBq ‹_› (by simp) (by simp) hl
  ·injection hf with hf;subst hf;exact aBq ‹_› (by simp) (by simp) hl
  ·injection hf with hf;subst hf;exact aBq ‹_› (by simp) (by simp) hl
  ·rename_i fs hu
   have hag:(isAgg t).run P w=.ok true w:=by simp [isAgg,aA hu]
   simp only [part,Sem.run_bind,hag,Result.andThen_ok,if_true,bI hi]
   have hv:iQ P t ((cs.toList.drop off).take ks.length)=.agg (cs.extract off (off+i.size)):=by
    rw [dV hu,hik]
    congr 1
    apply Array.ext'
    simp [Array.toList_extract,List.extract_eq_take_drop]
   rw [hv];rfl
  ·cases hf
def oW (P:Program) (d:Nat) (fs:List Field) (ks:Option (List CK)):Option (List CK):=
 fs.foldl (fun acc f=>acc.bind fun ks=>(fC P d f.type).bind fun l=>if f.name≠ "_" ∧f.offset=ks.length∧(P.info? f.type).map (·.size)=some l.length then some (ks++l) else none) ks
theorem tA {d:Nat}:∀(fs:List Field),oW P d fs none=none
 | []=>rfl
 |f::fs=>by unfold oW;simp only [List.foldl_cons,Option.bind_none];exact tA fs
theorem rZ {d:Nat} {f:Field} {fs:List Field} {ks out:List CK} (h:oW P d (f::fs) (some ks)=some out):
  ∃l,fC P d f.type=some l∧f.name≠ "_" ∧f.offset=ks.length∧(P.info? f.type).map (·.size)=some l.length∧oW P d fs (some (ks++l))=some out:=by
 unfold oW at h
 simp only [List.foldl_cons,Option.bind_some] at h
 cases hl:fC P d f.type with
 |none=>rw [hl] at h;simp only [Option.bind_none] at h;exact absurd ((tA (d:=d) fs).symm.trans h) (by simp)
 |some l=>
  rw [hl] at h
  simp only [Option.bind_some] at h
  split at h
  ·rename_i hc;exact ⟨l,rfl,hc.1,hc.2.1,hc.2.2,h⟩
  ·exact absurd ((tA (d:=d) fs).symm.trans h) (by simp)
theorem xO {d:Nat}:∀(fs:List Field) (ks out:List CK),oW P d fs (some ks)=some out→∃l,out=ks++l
 | [],ks,out,h=>⟨[],by simp [oW] at h;simp [h]⟩
 |f::fs,ks,out,h=>by
  obtain ⟨l,_,_,_,_,h2⟩:=rZ h
  obtain ⟨l2,rfl⟩:=xO fs _ _ h2
  exact ⟨l++l2,by simp⟩
theorem aDw:∀(d:Nat) (t:TypeId) (ks:List CK),fC P d t=some ks→∀(xs ys:List Value) (r:Bool),bM ks xs ys=some r→∀m,(Op.equalIn (d+m) t (iQ P t xs) (iQ P t ys)).run P w=.ok r w
 |0,_,_,h,_,_,_,_,_=>by cases h
 |d+1,t,ks,h,xs,ys,r,hr,m=>by
  simp only [fC] at h
  rw [show d+1+m=(d+m)+1 from by omega]
  have one:∀(c:CK),ks= [c]→∃x y,xs= [x]∧ys= [y]∧fV c x y=some r:=by
   intro c hc
   subst hc
   obtain ⟨h1,h2⟩:=iU _ _ _ _ hr
   match xs,ys,h1,h2 with
   | [x], [y],_,_=>
    simp only [bM,Option.map_some,Bool.and_true,Option.bind_eq_some_iff,Option.some.injEq] at hr
    obtain ⟨b,hb,rfl⟩:=hr
    exact ⟨x,y,rfl,rfl,hb⟩
  split at h
  ·rename_i hu
   obtain ⟨x,y,rfl,rfl,hb⟩:=one .b (by injection h with h;exact h.symm)
   simp only [iQ,hu,List.getD_cons_zero]
   unfold fV at hb
   split at hb<;>simp_all
   subst hb;exact run_equalIn_bool' w _ _ _ _ hu
  ·rename_i kk hu
   obtain ⟨x,y,rfl,rfl,hb⟩:=one .i (by injection h with h;exact h.symm)
   simp only [iQ,hu,List.getD_cons_zero]
   unfold fV at hb
   split at hb<;>simp_all
   obtain ⟨rfl,rfl⟩:=hb;rw [run_equalIn_int w _ _ _ _ _ _ hu,aJ2]
  ·rename_i hu
   obtain ⟨x,y,rfl,rfl,hb⟩:=one .s (by injection h with h;exact h.symm)
   simp only [iQ,hu,List.getD_cons_zero]
   unfold fV at hb
   split at hb<;>simp_all
   subst hb;rw [run_equalIn_string w _ _ _ _ hu,aDs]
  ·rename_i fs hu
   split at h
   ·cases h
   ·rename_i hst
    rw [dV hu,dV hu]
    have hfo:P.fieldsOf t=fs:=by unfold Program.fieldsOf;rw [hu]
    rw [run_equalIn_struct w _ t _ _ (by rw [hfo];exact hu) (by simpa using hst),hfo]
    have key:∀(l:List Field) (k1 out:List CK) (x1 x2 y1 y2:List Value) (r2:Bool),oW P d l (some k1)=some out→x1.length=k1.length→y1.length=k1.length→
      bM (out.drop k1.length) x2 y2=some r2→(Op.eqFields (d+m) (x1++x2).toArray (y1++y2).toArray l).run P w=.ok r2 w:=by
     intro l
     induction l with
     |nil=>
      intro k1 out x1 x2 y1 y2 r2 hf hx hy hc
      simp only [oW,List.foldl_nil,Option.some.injEq] at hf
      subst hf
      rw [List.drop_length] at hc
      obtain ⟨h1,h2⟩:=iU _ _ _ _ hc
      obtain rfl:=List.length_eq_zero_iff.1 h1
      obtain rfl:=List.length_eq_zero_iff.1 h2
      simp only [bM,Option.some.injEq] at hc
      subst hc
      rfl
     |cons f l ihl=>
      intro k1 out x1 x2 y1 y2 r2 hf hx hy hc
      obtain ⟨lk,hlk,hn,ho,hsz,hrest⟩:=rZ hf
      obtain ⟨tail,hout⟩:=xO l _ _ hrest
      have hd:out.drop k1.length=lk++tail:=by rw [hout];simp
      rw [hd] at hc
      obtain ⟨hlx,hly⟩:=iU _ _ _ _ hc
      simp only [List.length_append] at hlx hly
      have ex:x2=x2.take lk.length++x2.drop lk.length:=(List.take_append_drop _ _).symm
      have ey:y2=y2.take lk.length++y2.drop lk.length:=(List.take_append_drop _ _).symm
      have tx:(x2.take lk.length).length=lk.length:=by simp;omega
      have ty:(y2.take lk.length).length=lk.length:=by simp;omega
      rw [ex,ey] at hc
      obtain ⟨r1,r3,hc1,hc2,rfl⟩:=tK lk tail _ _ _ _ r2 tx ty hc
      have px:(part f.type (x1++x2).toArray f.offset).run P w=.ok (iQ P f.type (x2.take lk.length)) w:=by
       have:=wN (w:=w) (off:=f.offset) (cs:=(x1++x2).toArray) hlk hsz (by simp;omega)
       rw [this,ho];simp [←hx]
      have py:(part f.type (y1++y2).toArray f.offset).run P w=.ok (iQ P f.type (y2.take lk.length)) w:=by
       have:=wN (w:=w) (off:=f.offset) (cs:=(y1++y2).toArray) hlk hsz (by simp;omega)
       rw [this,ho];simp [←hy]
      have pe:=aDw d f.type lk hlk _ _ r1 hc1 m
      simp only [Op.eqFields,hn,ne_eq,not_false_eq_true,if_true,Sem.run_bind,px,Result.andThen_ok,py,pe]
      cases r1 with
      |false=>simp
      |true=>
       simp only [Bool.not_true,Bool.false_eq_true,if_false,Bool.true_and]
       have:=ihl (k1++lk) out (x1++x2.take lk.length) (x2.drop lk.length) (y1++y2.take lk.length) (y2.drop lk.length) r3 hrest (by simp [hx];omega) (by simp [hy];omega) (by rw [hout];simpa using hc2)
       simpa [List.append_assoc] using this
    exact key fs.toList [] ks [] xs [] ys r h rfl rfl (by simpa using hr)
  ·cases h
theorem tB:∀(ks:List CK) (l:List Value),fZ ks l=true→l.length=ks.length
 | [], [],_=>rfl
 |_::ks,_::l,h=>by
  simp only [fZ,Bool.and_eq_true] at h
  simp [tB ks l h.2]
 | [],_::_,h=>by simp [fZ] at h
 |_::_, [],h=>by simp [fZ] at h
theorem tH:∀(k1 k2:List CK) (a b:List Value),a.length=k1.length→fZ (k1++k2) (a++b)=true→fZ k1 a=true∧fZ k2 b=true
 | [],k2, [],b,_,h=>⟨rfl,h⟩
 |k::k1,k2,x::a,b,hl,h=>by
  simp only [List.cons_append,fZ,Bool.and_eq_true] at h ⊢
  have:=tH k1 k2 a b (by simpa using hl) h.2
  exact ⟨⟨h.1,this.1⟩,this.2⟩
theorem oU {em:Bool}:∀(d:Nat) (t:TypeId) (ks:List CK),fC P d t=some ks→∀(xs:List Value),fZ ks xs=true→∀m,(Instr.checkKey em (d+m) t (iQ P t xs)).run P w=.ok () w
 |0,_,_,h,_,_,_=>by cases h
 |d+1,t,ks,h,xs,hr,m=>by
  simp only [fC] at h
  rw [show d+1+m=(d+m)+1 from by omega]
  have one:∀(c:CK),ks= [c]→∃x,xs= [x]∧aTq c x=true:=by
   intro c hc
   subst hc
   have h1:=tB _ _ hr
   match xs,h1 with
   | [x],_=>exact ⟨x,rfl,by simpa [fZ] using hr⟩
  split at h
  ·rename_i hu
   simp [Instr.checkKey,aA hu]
  ·rename_i hu
   simp [Instr.checkKey,aA hu]
  ·rename_i hu
   simp [Instr.checkKey,aA hu]
  ·rename_i fs hu
   split at h
   ·cases h
   ·rw [dV hu]
    have key:∀(l:List Field) (k1 out:List CK) (x1 x2:List Value),oW P d l (some k1)=some out→x1.length=k1.length→
      fZ (out.drop k1.length) x2=true→(forIn (m:=Sem) l PUnit.unit fun f _=>do
       if f.name≠ "_" then Instr.checkKey em (d+m) f.type (←part f.type (x1++x2).toArray f.offset)
       pure (ForInStep.yield PUnit.unit)).run P w=.ok PUnit.unit w:=by
     intro l
     induction l with
     |nil=>intro k1 out x1 x2 hf hx hc;rfl
     |cons f l ihl=>
      intro k1 out x1 x2 hf hx hc
      obtain ⟨lk,hlk,hn,ho,hsz,hrest⟩:=rZ hf
      obtain ⟨tail,hout⟩:=xO l _ _ hrest
      have hd:out.drop k1.length=lk++tail:=by rw [hout];simp
      rw [hd] at hc
      have hlx:=tB _ _ hc
      simp only [List.length_append] at hlx
      have ex:x2=x2.take lk.length++x2.drop lk.length:=(List.take_append_drop _ _).symm
      have tx:(x2.take lk.length).length=lk.length:=by simp;omega
      rw [ex] at hc
      obtain ⟨hc1,hc2⟩:=tH lk tail _ _ tx hc
      have px:(part f.type (x1++x2).toArray f.offset).run P w=.ok (iQ P f.type (x2.take lk.length)) w:=by
       have:=wN (w:=w) (off:=f.offset) (cs:=(x1++x2).toArray) hlk hsz (by simp;omega)
       rw [this,ho];simp [←hx]
      have pe:=oU (em:=em) d f.type lk hlk _ hc1 m
      have ih:=ihl (k1++lk) out (x1++x2.take lk.length) (x2.drop lk.length) hrest (by simp [hx];omega) (by rw [hout];simpa using hc2)
      have e1:x1++x2.take lk.length++x2.drop lk.length=x1++x2:=by rw [List.append_assoc,←ex]
      rw [e1] at ih
      rw [List.forIn_cons]
      simp only [Sem.run_bind,hn,ne_eq,not_false_eq_true,if_true,px,Result.andThen_ok,pe,Sem.run_pure,ih]
    have:=key fs.toList [] ks [] xs h rfl (by simpa using hr)
    simp only [Instr.checkKey,Sem.run_bind,aA hu,Result.andThen_ok]
    rw [←Array.forIn_toList]
    simp at this ⊢
    rw [this];rfl
  ·cases h
def pI (P:Program) (t:TypeId):Bool:=match P.underlying t with|some (.struct _)=>true|_=>false
theorem aBk {d:Nat} {t:TypeId} {ks:List CK} (h:fC P d t=some ks) (hs:pI P t=false):(P.underlying t=some .bool∧ks= [.b])∨(∃k,P.underlying t=some (.int k)∧ks= [.i])∨(P.underlying t=some .string∧ks= [.s]):=by
 cases d with
 |zero=>cases h
 |succ d=>
  simp only [fC] at h
  split at h
  ·rename_i hu;injection h with h;exact .inl ⟨hu,h.symm⟩
  ·rename_i k hu;injection h with h;exact .inr (.inl ⟨k,hu,h.symm⟩)
  ·rename_i hu;injection h with h;exact .inr (.inr ⟨hu,h.symm⟩)
  ·rename_i fs hu;simp [pI,hu] at hs
  ·cases h
theorem aIl {t:TypeId} {ks:List CK} (h:fC P 20 t=some ks) {a b:Value} {r:Bool} (he:tZ (pI P t) ks a b=some r):(Op.equal t a b).run P w=.ok r w:=by
 unfold tZ at he
 split at he
 ·rename_i hs
  split at he
  ·rename_i xs ys
   have hu:∃fs,P.underlying t=some (.struct fs):=by
    unfold pI at hs;split at hs
    ·exact ⟨_,‹_›⟩
    ·cases hs
   obtain ⟨fs,hu⟩:=hu
   have:=aDw (w:=w) 20 t ks h _ _ r he 9980
   rw [dV hu,dV hu] at this
   exact this
  ·cases he
 ·rename_i hs
  have hv:∀x:Value,iQ P t [x]=x:=by
   intro x
   rcases aBk h (by simpa using hs) with ⟨hu,_⟩|⟨k,hu,_⟩|⟨hu,_⟩<;>simp [iQ,hu]
  have:=aDw (w:=w) 20 t ks h _ _ r he 9980
  rw [hv,hv] at this
  exact this
theorem pF {em:Bool} {t:TypeId} {ks:List CK} (h:fC P 20 t=some ks) {a:Value} (he:aA2 (pI P t) ks a=true):(Instr.checkKey em 10000 t a).run P w=.ok () w:=by
 unfold aA2 at he
 split at he
 ·rename_i hs
  split at he
  ·rename_i xs
   have hu:∃fs,P.underlying t=some (.struct fs):=by
    unfold pI at hs;split at hs
    ·exact ⟨_,‹_›⟩
    ·cases hs
   obtain ⟨fs,hu⟩:=hu
   have:=oU (w:=w) (em:=em) 20 t ks h _ he 9980
   rw [dV hu] at this
   exact this
  ·cases he
 ·rename_i hs
  have hv:∀x:Value,iQ P t [x]=x:=by
   intro x
   rcases aBk h (by simpa using hs) with ⟨hu,_⟩|⟨k,hu,_⟩|⟨hu,_⟩<;>simp [iQ,hu]
  have:=oU (w:=w) (em:=em) 20 t ks h _ he 9980
  rw [hv] at this
  exact this
theorem aGh {t:TypeId} {ks:List CK} (h:fC P 20 t=some ks) {k:Value}:∀(es:List MapEntry) (i:Nat) (r:Option (Nat × Value)),gJ (pI P t) ks k es i=some r→(Instr.findAsking t k es i).run P w=.ok r w
 | [],i,r,hf=>by simp only [gJ,Option.some.injEq] at hf;subst hf;rfl
 |e::es,i,r,hf=>by
  simp only [gJ] at hf
  split at hf
  ·rename_i he
   simp only [Option.some.injEq] at hf;subst hf
   simp [Instr.findAsking,aIl h he]
  ·rename_i he
   simp [Instr.findAsking,aIl h he,aGh h es (i+1) r hf]
  ·cases hf
theorem qO {d:TypeDesc} {c:CK} (hc:(d=.bool∧c=.b)∨(∃k,d=.int k∧c=.i)∨(d=.string∧c=.s)) {k:Value}:∀(es:List MapEntry) (i:Nat) (r:Option (Nat × Value)),gJ false [c] k es i=some r→Instr.findNow d k es i=some r
 | [],i,r,hf=>by simp only [gJ,Option.some.injEq] at hf;subst hf;rfl
 |e::es,i,r,hf=>by
  simp only [gJ] at hf
  have hsame:∀b,tZ false [c] k e.key=some b→Instr.sameNow d k e.key=some b:=by
   intro b hb
   simp only [tZ,Bool.false_eq_true,if_false,bM,Option.map_some,Bool.and_true] at hb
   generalize e.key=y at hb
   rcases hc with ⟨rfl,rfl⟩|⟨q,rfl,rfl⟩|⟨rfl,rfl⟩
   ·unfold fV at hb;split at hb<;>simp_all [Instr.sameNow]
   ·unfold fV at hb;split at hb<;>simp_all [Instr.sameNow,aJ2]
   ·unfold fV at hb
    split at hb<;>simp_all [Instr.sameNow]
    rw [←hb,beq_toListBytes,aDs]
  split at hf
  ·rename_i he
   simp only [Instr.findNow,hsame _ he];exact hf
  ·rename_i he
   simp only [Instr.findNow,hsame _ he];exact qO hc es (i+1) r hf
  ·cases hf
theorem aEq {fs:Array Field} {k:Value} {e:MapEntry} {es:List MapEntry}:Instr.findNow (.struct fs) k (e::es) 0=none:=by
 simp [Instr.findNow,Instr.sameNow]
theorem pV {t:TypeId} {ks:List CK} (h:fC P 20 t=some ks) {k:Value} {es:List MapEntry} {r:Option (Nat × Value)} (hf:gJ (pI P t) ks k es 0=some r):(Instr.findKey t k es).run P w=.ok r w:=by
 unfold Instr.findKey
 by_cases hs:pI P t=true
 ·have hu:∃fs,P.underlying t=some (.struct fs):=by
   unfold pI at hs;split at hs
   ·exact ⟨_,‹_›⟩
   ·cases hs
  obtain ⟨fs,hu⟩:=hu
  simp only [Sem.run_bind,aA hu,Result.andThen_ok]
  cases es with
  |nil=>simp only [gJ,Option.some.injEq] at hf;subst hf;rfl
  |cons e es=>
   rw [aEq]
   exact aGh h _ 0 r hf
 ·have hs':pI P t=false:=by simpa using hs
  rw [hs'] at hf
  rcases aBk h hs' with ⟨hu,rfl⟩|⟨q,hu,rfl⟩|⟨hu,rfl⟩
  ·simp [aA hu,qO (.inl ⟨rfl,rfl⟩) es 0 r hf]
  ·simp [aA hu,qO (.inr (.inl ⟨q,rfl,rfl⟩)) es 0 r hf]
  ·simp [aA hu,qO (.inr (.inr ⟨rfl,rfl⟩)) es 0 r hf]
theorem aCc {c:CK} {a b:Value} (h:fV c a b=some true) (n:Nat):Instr.sameBits n a b=true:=by
 unfold fV at h
 split at h<;>simp_all [Instr.sameBits]
 rw [beq_toListBytes,aDs];simp
theorem aHf {c:CK} {a b:Value} (h:fV c a b=some true):a=b:=by
 unfold fV at h
 split at h<;>simp_all
theorem rH:∀(ks:List CK) (a b:List Value) (n:Nat),bM ks a b=some true→a=b∧((a.zip b).all fun (x,y)=>Instr.sameBits n x y)=true
 | [], [], [],_,_=>⟨rfl,rfl⟩
 |c::ks,x::a,y::b,n,h=>by
  simp only [bM,Option.bind_eq_some_iff,Option.map_eq_some_iff] at h
  obtain ⟨e,he,r,hr,hb⟩:=h
  simp only [Bool.and_eq_true] at hb
  obtain ⟨rfl,rfl⟩:=hb
  have h1:=aCc he n
  have h2:=aHf he
  obtain ⟨h3,h4⟩:=rH ks a b n hr
  refine ⟨by rw [h2,h3],?_⟩
  simp only [List.zip_cons_cons,List.all_cons,h1,Bool.true_and]
  exact h4
 | [], [],_::_,_,h=>by simp [bM] at h
 | [],_::_,_,_,h=>by simp [bM] at h
 |_::_, [],_,_,h=>by simp [bM] at h
 |_::_,_::_, [],_,h=>by simp [bM] at h
theorem aFw {s:Bool} {ks:List CK} {a b:Value} (h:tZ s ks a b=some true):a=b∧∀n,Instr.sameBits (n+1) a b=true:=by
 unfold tZ at h
 split at h
 ·split at h
  ·rename_i xs ys
   have h1:=iU _ _ _ _ h
   have h3:=(rH ks _ _ 0 h).1
   refine ⟨by rw [Array.toList_inj.1 h3],fun n=>?_⟩
   have h2:=(rH ks _ _ n h).2
   simp only [Array.length_toList] at h1
   simp only [Instr.sameBits,h1.1,h1.2,beq_self_eq_true,Bool.true_and]
   exact h2
  ·cases h
 ·obtain ⟨h1,h2⟩:=iU _ _ _ _ h
  match ks,h1 with
  | [c],_=>
   simp only [bM,Option.map_some,Bool.and_true,Option.bind_eq_some_iff,Option.some.injEq] at h
   obtain ⟨e,he,rfl⟩:=h
   exact ⟨aHf he,fun n=>aCc he _⟩
theorem aE9 {s:Bool} {ks:List CK} {k:Value}:∀(es:List MapEntry) (i j:Nat) (v:Value),gJ s ks k es i=some (some (j,v))→i≤j∧∃e,es[j - i]? =some e∧e.key=k∧e.val=v∧tZ s ks k e.key=some true
 | [],i,j,v,h=>by simp [gJ] at h
 |e::es,i,j,v,h=>by
  simp only [gJ] at h
  split at h
  ·rename_i he
   simp only [Option.some.injEq,Prod.mk.injEq] at h
   obtain ⟨rfl,rfl⟩:=h
   exact ⟨Nat.le_refl _,e,by simp,(aFw he).1.symm,rfl,he⟩
  ·rename_i he
   obtain ⟨h1,e',h2,h3⟩:=aE9 es (i+1) j v h
   refine ⟨by omega,e',?_,h3⟩
   rw [show j - i=(j - (i+1))+1 from by omega]
   simpa using h2
  ·cases h
theorem aJq {s:Bool} {ks:List CK} {a b:Value} (h:tZ s ks a b=some true):(Instr.keyThatStays b a).run P w=.ok a w:=by
 obtain ⟨rfl,h2⟩:=aFw h
 unfold Instr.keyThatStays
 rw [if_pos (h2 9999)]
 rfl
end
section
open Go
variable {P:Program} {ρ:Env} {w:World}
theorem dT {o:Oper} {s:Sem Value} {v:Value} (h:execOp (ev ρ) o=(do pure (Next.value (←s)))) (hs:s.run P w=.ok v w):(execOp (ev ρ) o).run P w=.ok (.value v) w:=by
 rw [h];simp [hs]
theorem hX (a:Addr):(Instr.sureAddr (.pointer (some a))).run P w=.ok a w:=rfl
theorem aM1 (f:Operand→Value) (a:Array Operand):a.map f=(a.toList.map f).toArray:=by apply Array.ext';simp
theorem sY {x:Value} {k:IntKind} {n:Int} {y:Nat} {c:BoundsCode} (hx:x=.int k n) (h:0≤n∧n≤(y:Int)):(Instr.sliceBound x y c).run P w=.ok n.toNat w:=by
 subst hx
 simp [Instr.sliceBound,asIntOf,h]
theorem aE6 {lo hi:Option Operand} (isSl:Bool) (ln cap:Nat) (h l:Nat)
  (e1:(match hi with|none=>some ln|some h=>match ev ρ h with|.int _ n=>if 0≤n∧n≤(cap:Int) then some n.toNat else none|_=>none)=some h)
  (e2:(match lo with|none=>some 0|some l=>match ev ρ l with|.int _ n=>if 0≤n∧n≤(h:Int) then some n.toNat else none|_=>none)=some l):
  (Instr.sliceBounds isSl ln cap (lo.map (ev ρ)) (hi.map (ev ρ)) none).run P w=.ok (l,h,cap) w:=by
 have r1:∀c,((match hi.map (ev ρ) with|some v=>Instr.sliceBound v cap c|none=>pure ln:Sem Nat)).run P w=.ok h w:=by
  intro c
  cases hi with
  |none=>simp only [Option.some.injEq] at e1;subst e1;rfl
  |some hh=>
   simp only at e1
   split at e1
   ·rename_i k n hn
    split at e1
    ·rename_i hc
     simp only [Option.some.injEq] at e1;subst e1
     exact sY hn hc
    ·cases e1
   ·cases e1
 have r2:∀c,((match lo.map (ev ρ) with|some v=>Instr.sliceBound v h c|none=>pure 0:Sem Nat)).run P w=.ok l w:=by
  intro c
  cases lo with
  |none=>simp only [Option.some.injEq] at e2;subst e2;rfl
  |some hh=>
   simp only at e2
   split at e2
   ·rename_i k n hn
    split at e2
    ·rename_i hc
     simp only [Option.some.injEq] at e2;subst e2
     exact sY hn hc
    ·cases e2
   ·cases e2
 have r1':=r1 (if isSl=true then .sliceAcap else .sliceAlen)
 have r2':=r2 .sliceB
 unfold Instr.sliceBounds
 cases hi<;>cases lo<;>simp_all
theorem aJ1:∀(xs:List Value) (k off:Nat) (cs:Array Value),off+k+xs.length≤cs.size→
  ((xs.zipIdx k).foldl (fun (cs:Array Value) (cj:Value × Nat)=>cs.setIfInBounds (off+cj.2) cj.1) cs).toList=cs.toList.take (off+k)++xs++cs.toList.drop (off+k+xs.length)
 | [],k,off,cs,h=>by simp
 |x::xs,k,off,cs,h=>by
  simp only [List.length_cons] at h
  simp only [List.zipIdx_cons,List.foldl_cons]
  rw [aJ1 xs (k+1) off _ (by simp;omega)]
  have hlt:off+k<cs.toList.length:=by simp;omega
  rw [Array.toList_setIfInBounds]
  rw [List.drop_set_of_lt (by omega)]
  rw [show off+(k+1)=(off+k)+1 from by omega,List.take_succ_eq_append_getElem (by simpa using hlt)]
  simp [List.take_set_of_le (Nat.le_refl _)]
  congr 1;omega
theorem sM {pl:List (Nat × Nat)}:
  ∀(l:List (Nat × Operand)) (ps:List (Nat × Nat × Operand)) (cs:Array Value) (out:List Value),jP pl l=some ps→(∀p∈ps,p.1+p.2.1≤cs.size)→kB (ev ρ) cs.toList ps=some out→
  Instr.fill (pl.toArray[·]?) cs (l.map fun p=>(p.1,ev ρ p.2))=some out.toArray
 | [],ps,cs,out,hp,_,hf=>by
  simp only [jP,Option.some.injEq] at hp;subst hp
  simp only [kB,Option.some.injEq] at hf;subst hf
  simp [Instr.fill]
 |(i,x)::l,ps,cs,out,hp,hb,hf=>by
  simp only [jP,Option.bind_eq_some_iff,Option.map_eq_some_iff] at hp
  obtain ⟨⟨off,n⟩,hf1,ps',hps,rfl⟩:=hp
  simp only [kB] at hf
  split at hf
  ·rename_i hsz
   have hbd:=hb (off,n,x) (by simp)
   simp only at hbd
   have hpl:pl.toArray[i]? =some (off,n):=by simpa using hf1
   simp only [List.map_cons,Instr.fill,hpl]
   rw [if_neg (by simp [hsz];omega)]
   have hset:=aJ1 (ev ρ x).cells.toList 0 off cs (by simp [hsz];omega)
   simp only [Nat.add_zero] at hset
   have hlen:((ev ρ x).cells.toList).length=n:=by simpa using hsz
   rw [hlen] at hset
   rw [←Array.foldl_toList,Array.toList_zipIdx]
   refine sM l ps' _ out hps ?_ ?_
   ·intro p hpm
    have:=hb p (by simp [hpm])
    rw [←Array.length_toList,hset]
    simp [hlen];omega
   ·rw [hset];exact hf
  ·cases hf
theorem aEp:∀(fs:List Field) (pl:List (Nat × Nat)),places P fs=some pl→(fs.mapM (m:=Sem) fun f=>do pure (f.offset,←sizeOf f.type)).run P w=.ok pl w
 | [],pl,h=>by simp only [places,Option.some.injEq] at h;subst h;rfl
 |f::fs,pl,h=>by
  simp only [places,Option.bind_eq_some_iff,Option.map_eq_some_iff] at h
  obtain ⟨inf,hinf,r,hr,rfl⟩:=h
  rw [List.mapM_cons]
  simp only [Sem.run_bind,bI hinf,Result.andThen_ok,Sem.run_pure,aEp fs r hr]
theorem aR8 {t:TypeId} {inf:TypeInfo} {z:Value} {parts:Array (Nat × Operand)} {ps:List (Nat × Nat × Operand)} {cs:List Value} (hinf:P.info? t=some inf) (hz:inf.zero=some z) (hps:((placesOf P t).bind fun pl=>jP pl parts.toList)=some ps)
  (hb:∀p∈ps,p.1+p.2.1≤z.cells.size) (hcs:kB (ev ρ) z.cells.toList ps=some cs):(Instr.build t (parts.map fun p=>(p.1,ev ρ p.2))).run P w=.ok (.agg cs.toArray) w:=by
 obtain ⟨pl,hpl,hps⟩:=Option.bind_eq_some_iff.1 hps
 unfold placesOf at hpl
 split at hpl
 ·rename_i fs hu
  have hzv:(zeroValue t).run P w=.ok z w:=by simp [zeroValue,aW hinf,hz]
  have hm:=aEp (w:=w) fs.toList pl hpl
  have hfill:=sM (ρ:=ρ) parts.toList ps z.cells cs hps hb hcs
  simp only [Instr.build,Sem.run_bind,hzv,Result.andThen_ok,aA hu,Array.mapM_eq_mapM_toList,Sem.run_map,hm]
  have:(parts.map fun p=>(p.1,ev ρ p.2)).toList=parts.toList.map fun p=>(p.1,ev ρ p.2):=by simp
  rw [this,hfill]
  rfl
 ·cases hpl
theorem aCj {mx:Bool}:∀(ys:List Operand),ys.foldl (fun acc y=>acc.bind fun a=>rF mx a (ev ρ y)) none=none
 | []=>rfl
 |y::ys=>by simp only [List.foldl_cons,Option.bind_none];exact aCj ys
theorem xI (mx:Bool):∀(ys:List Operand) (a v:Value),ys.foldl (fun acc y=>acc.bind fun a=>rF mx a (ev ρ y)) (some a)=some v→
  ((ys.map (ev ρ)).foldlM (m:=Sem) (if mx then Builtin.max2 else Builtin.min2) a).run P w=.ok v w
 | [],a,v,h=>by simp at h;subst h;rfl
 |y::ys,a,v,h=>by
  simp only [List.foldl_cons,Option.bind_some] at h
  cases h2:rF mx a (ev ρ y) with
  |none=>rw [h2,aCj] at h;cases h
  |some b=>
   rw [h2] at h
   have ih:=xI mx ys b v h
   have h3:((if mx then Builtin.max2 else Builtin.min2) a (ev ρ y)).run P w=.ok b w:=by
    unfold rF at h2
    split at h2
    ·rename_i k p k' q hq
     simp only [Option.some.injEq] at h2;subst h2
     rw [hq]
     cases mx<;>rfl
    ·cases h2
   simp only [List.map_cons,List.foldlM_cons,Sem.run_bind,h3,Result.andThen_ok,ih]
theorem aVh {op:BinOp} {t:TypeId} {q:EqK} {x y:Value} {b:Bool} (hop:op=.eql∨op=.neq) (h:yY q x y=some b) (he:(Op.equal t x y).run P w=.ok b w):
  (binOp op t x y).run P w=.ok (.bool (if decide (op=.neq)=true then !b else b)) w:=by
 rcases hop with rfl|rfl<;>unfold yY at h<;>split at h<;>first|(cases h;done)|(simp [binOp,he])
theorem aFq {place:Nat→Option (Nat × Nat)} {off sz:Nat→Nat}:∀(l:List (Nat × Operand)) (cs:Array Value) (out:List Value),(∀p∈l,place p.1=some (off p.1,sz p.1)∧off p.1+sz p.1≤cs.size)→kB (ev ρ) cs.toList (l.map fun p=>(off p.1,sz p.1,p.2))=some out→
  Instr.fill place cs (l.map fun p=>(p.1,ev ρ p.2))=some out.toArray
 | [],cs,out,_,hf=>by
  simp only [List.map_nil,kB,Option.some.injEq] at hf;subst hf
  simp [Instr.fill]
 |(i,x)::l,cs,out,hp,hf=>by
  obtain ⟨hpl,hbd⟩:=hp (i,x) (by simp)
  simp only [List.map_cons,kB] at hf
  split at hf
  ·rename_i hsz
   simp only at hpl hbd
   simp only [List.map_cons,Instr.fill,hpl]
   rw [if_neg (by simp [hsz];omega)]
   have hset:=aJ1 (ev ρ x).cells.toList 0 (off i) cs (by simp [hsz];omega)
   simp only [Nat.add_zero] at hset
   have hlen:((ev ρ x).cells.toList).length=sz i:=by simpa using hsz
   rw [hlen] at hset
   rw [←Array.foldl_toList,Array.toList_zipIdx]
   refine aFq (off:=off) (sz:=sz) l _ out ?_ ?_
   ·intro p hpm
    refine ⟨(hp p (by simp [hpm])).1,?_⟩
    have:=(hp p (by simp [hpm])).2
    rw [←Array.length_toList,hset]
    simp [hlen];omega
   ·rw [hset];exact hf
  ·cases hf
theorem aO2 {t:TypeId} {sz:Nat} (h:aP6 P t=some sz):∃n e inf,P.underlying t=some (.array n e)∧P.info? e=some inf∧inf.size=sz:=by
 unfold aP6 at h
 split at h
 ·rename_i n e hu
  obtain ⟨inf,hi,rfl⟩:=Option.map_eq_some_iff.1 h
  exact ⟨n,e,inf,hu,hi,rfl⟩
 ·cases h
theorem aIx {t:TypeId} {inf:TypeInfo} {z:Value} {parts:Array (Nat × Operand)} {sz:Nat} {cs:List Value} (hinf:P.info? t=some inf) (hz:inf.zero=some z) (ha:aP6 P t=some sz)
  (hb:∀p∈parts.toList,p.1*sz+sz≤z.cells.size) (hcs:kB (ev ρ) z.cells.toList (parts.toList.map fun p=>(p.1*sz,sz,p.2))=some cs):(Instr.build t (parts.map fun p=>(p.1,ev ρ p.2))).run P w=.ok (.agg cs.toArray) w:=by
 obtain ⟨n,e,einf,hu,he,rfl⟩:=aO2 ha
 have hzv:(zeroValue t).run P w=.ok z w:=by simp [zeroValue,aW hinf,hz]
 have hfill:=aFq (ρ:=ρ) (place:=fun i=>some (i*einf.size,einf.size)) (off:=fun i=>i*einf.size) (sz:=fun _=>einf.size) parts.toList z.cells cs (fun p hp=>⟨rfl,hb p hp⟩) hcs
 have e3:(parts.map fun p=>(p.1,ev ρ p.2)).toList=parts.toList.map fun p=>(p.1,ev ρ p.2):=by simp
 simp only [Instr.build,Sem.run_bind,hzv,Result.andThen_ok,aA hu,bI he]
 rw [e3,hfill]
 rfl
theorem info_lt {t:TypeId} (h:t<P.types.size):∃i,P.info? t=some i:=by
 refine ⟨P.types[t],?_⟩
 show (if t<P.types.size then P.types[t]? else _)=_
 rw [if_pos h,Array.getElem?_eq_getElem h]
theorem aMe {a xt:TypeId} {want:Array (String × TypeId)} {ok:Bool} {x v z:Value} (hu:P.underlying a=some (.interface want)) (hz:(zeroValue a).run P w=.ok z w) (h:yV true (uM P a) P.types.size z ok x=some v):(Instr.typeAssert x xt a ok).run P w=.ok v w:=by
 have himp:∀t,(uM P a).contains t=true↔t<P.types.size∧∃i,P.info? t=some i∧Instr.missingMethod want i.methods=none:=by
  intro t
  unfold uM
  rw [hu]
  simp only [List.contains_iff_mem,List.mem_filter,List.mem_range]
  constructor
  ·rintro ⟨h1,h2⟩
   refine ⟨h1,?_⟩
   split at h2
   ·rename_i i hi;exact ⟨i,hi,aAb.2 (by simpa using h2)⟩
   ·cases h2
  ·rintro ⟨h1,i,hi,h2⟩
   exact ⟨h1,by rw [hi];simp [aAb.1 h2]⟩
 unfold yV at h
 split at h
 ·split at h
  ·rename_i hok
   simp only [Option.some.injEq] at h;subst h
   simp [Instr.typeAssert,aA hu,hok,hz]
  ·cases h
 ·rename_i t u
  split at h
  ·rename_i hm
   simp only [if_true,Option.some.injEq] at h;subst h
   obtain ⟨_,i,hi,hn⟩:=(himp t).1 hm
   cases ok<;>simp [Instr.typeAssert,aA hu,aW hi,hn]
  ·rename_i hm
   split at h
   ·rename_i hc
    obtain ⟨hok,hlt⟩:=hc
    have hlt:=hlt rfl
    simp only [Option.some.injEq] at h;subst h
    obtain ⟨i,hi⟩:=info_lt hlt
    cases hn:Instr.missingMethod want i.methods with
    |none=>exact absurd ((himp t).2 ⟨hlt,i,hi,hn⟩) hm
    |some m=>simp [Instr.typeAssert,aA hu,aW hi,hn,hok,hz]
   ·cases h
 ·cases h
theorem aKk {a xt:TypeId} {d:TypeDesc} {ok:Bool} {x v z:Value} (hu:P.underlying a=some d) (hd:∀want,d≠.interface want) (hz:(zeroValue a).run P w=.ok z w) (h:yV false [a] 0 z ok x=some v):(Instr.typeAssert x xt a ok).run P w=.ok v w:=by
 unfold yV at h
 split at h
 ·split at h
  ·rename_i hok
   simp only [Option.some.injEq] at h;subst h
   cases d<;>first|exact absurd rfl (hd _)|simp [Instr.typeAssert,aA hu,hok,hz]
  ·cases h
 ·rename_i t u
  split at h
  ·rename_i hm
   simp only [Bool.false_eq_true,if_false,Option.some.injEq] at h;subst h
   have e:t=a:=by simpa using hm
   subst e
   cases ok<;>cases d<;>first|exact absurd rfl (hd _)|simp [Instr.typeAssert,aA hu]
  ·rename_i hm
   have e:t≠a:=by simpa using hm
   split at h
   ·rename_i hc
    obtain ⟨hok, -⟩:=hc
    simp only [Option.some.injEq] at h;subst h
    cases d<;>first|exact absurd rfl (hd _)|simp [Instr.typeAssert,aA hu,hok,hz,e]
   ·cases h
 ·cases h
theorem aI1 {t:TypeId} {v:Value} {name:String} (h:aM2 P t v name=true):(nilAhead (P.types.size+Made.depth) t v name).run P w=.ok (some false) w:=by
 obtain ⟨⟨f,rv⟩,h⟩:=Option.isSome_iff_exists.1 h
 unfold mF at h
 split at h
 ·rename_i i d hi hu
  split at h
  ·rename_i m hm
   have e:P.types.size+Made.depth=(P.types.size+99)+1:=rfl
   rw [e]
   generalize P.types.size+99=fuel
   obtain ⟨mn,ms,path,func⟩:=m
   obtain ⟨path⟩:=path
   cases path with
   |cons a b=>simp at h
   |nil=>
    rcases func with _|⟨g,_|_⟩
    ·simp at h
    ·cases d<;>simp only [Option.some.injEq,Prod.mk.injEq,reduceCtorEq] at h<;>obtain ⟨rfl,rfl⟩:=h<;>
      simp [nilAhead,followBlind,aW hi,hm,aA hu]
    ·cases d<;>simp only [Option.some.injEq,Prod.mk.injEq,reduceCtorEq] at h<;>obtain ⟨rfl,rfl⟩:=h<;>
      simp [nilAhead,followBlind,aW hi,hm,aA hu]
  ·cases h
 ·cases h
theorem aSu {n:Nat} {t:TypeId} {k kd:IntKind} {p q:Int} (hk:P.underlying t=some (.int k)):(Op.equalIn (n+1) t (.int kd p) (.int kd q)).run P w=.ok (decide (p=q)) w:=by
 simp [Op.equalIn,aA hk,aJ2]
theorem aNv {n:Nat} {t tx ty:TypeId} {ms:Array (String × TypeId)} {a b:Value} (hd:P.underlying t=some (.interface ms)) (h:tx≠ty):(Op.equalIn (n+1) t (.iface tx a) (.iface ty b)).run P w=.ok false w:=by
 simp [Op.equalIn,aA hd,h]
theorem aPp {n:Nat} {t tx:TypeId} {ms:Array (String × TypeId)} {i:TypeInfo} {a b:Value} (hd:P.underlying t=some (.interface ms)) (hi:P.info? tx=some i) (hc:i.comparable=true):
  (Op.equalIn (n+1) t (.iface tx a) (.iface tx b)).run P w=(Op.equalIn n tx a b).run P w:=by
 simp [Op.equalIn,aA hd,aW hi,hc]
theorem aGd {n:Nat} {t tx:TypeId} {ms:Array (String × TypeId)} {a:Value} (hd:P.underlying t=some (.interface ms)):(Op.equalIn (n+1) t .nilIface (.iface tx a)).run P w=.ok false w∧(Op.equalIn (n+1) t (.iface tx a) .nilIface).run P w=.ok false w:=by
 constructor<;>simp [Op.equalIn,aA hd]
theorem aJb {t:TypeId} {ms:Array (String × TypeId)} (hd:P.underlying t=some (.interface ms)) {x y:Value} {r:Bool} (h:nV (aAm P) x y=some r) (n:Nat):(Op.equalIn (n+1+1) t x y).run P w=.ok r w:=by
 unfold nV at h
 split at h
 ·simp only [Option.some.injEq] at h;subst h
  exact (aGd hd).1
 ·simp only [Option.some.injEq] at h;subst h
  exact (aGd hd).2
 ·rename_i tx a ty b
  split at h
  ·rename_i he
   subst he
   split at h
   ·rename_i hm
    unfold aAm at hm
    simp only [List.contains_iff_mem,List.mem_filter,List.mem_range] at hm
    obtain ⟨h1,h2⟩:=hm
    split at h2
    ·rename_i i k hi hk
     rw [aPp hd hi h2]
     unfold fV at h
     split at h<;>try (rename_i e;cases e;done)
     ·split at h
      ·rename_i hkk
       subst hkk
       simp only [Option.some.injEq] at h;subst h
       exact aSu hk
      ·cases h
     ·cases h
    ·cases h2
   ·cases h
  ·rename_i he
   simp only [Option.some.injEq] at h;subst h
   exact aNv hd he
 ·cases h
theorem aMm {t:TypeId} {ms:Array (String × TypeId)} (hd:P.underlying t=some (.interface ms)) {x y:Value} {r:Bool} (h:nV (aAm P) x y=some r):(Op.equal t x y).run P w=.ok r w:=
 aJb hd h 9998
theorem aOo {op:BinOp} {t:TypeId} {ts:List TypeId} {x y:Value} {b:Bool} (hop:op=.eql∨op=.neq) (h:nV ts x y=some b) (he:(Op.equal t x y).run P w=.ok b w):
  (binOp op t x y).run P w=.ok (.bool (if decide (op=.neq)=true then !b else b)) w:=by
 rcases hop with rfl|rfl<;>unfold nV at h<;>split at h<;>first|(cases h;done)|(simp [binOp,he])
theorem rY [Quiet P] (o:Oper) (v:Value) (hst:(aC P o).isStill=true) (hnp:(aC P o).isPc=false) (hv:(aC P o).rd ρ w=some v):(execOp (ev ρ) o).run P w=.ok (.value v) w:=by
 obtain ⟨dst,op,ty,pos,after,guard⟩:=o
 cases op
 case move x=>simp only [aC,KOp.rd,KOp.fix,Option.some.injEq] at hv;subst hv;rfl
 case assign x=>simp only [aC,KOp.rd,KOp.fix,Option.some.injEq] at hv;subst hv;rfl
 case pick c a b=>
  simp only [aC,KOp.rd,KOp.fix] at hv
  split at hv
  ·rename_i t ht
   simp only [Option.some.injEq] at hv;subst hv
   simp [execOp,ht,asBool]
  ·cases hv
 case typeAssert x xt a ok=>
  simp only [aC] at hst hv
  cases hu:P.underlying a with
  |none=>rw [hu] at hst;simp [KOp.isStill,KOp.isFix] at hst
  |some d=>
   cases hz:zeroOf P a with
   |none=>rw [hu,hz] at hst;cases d<;>simp [KOp.isStill,KOp.isFix] at hst
   |some z=>
    have hzr:(zeroValue a).run P w=.ok z w:=by
     unfold zeroOf at hz
     obtain ⟨inf,h1,h2⟩:=Option.bind_eq_some_iff.1 hz
     simp [zeroValue,aW h1,h2]
    refine dT (s:=Instr.typeAssert (ev ρ x) xt a ok) rfl ?_
    rw [hu,hz] at hv
    by_cases hd:∃want,d=.interface want
    ·obtain ⟨want,rfl⟩:=hd
     exact aMe hu hzr hv
    ·refine aKk hu (fun want e=>hd ⟨want,e⟩) hzr ?_
     cases d<;>first|exact absurd ⟨_,rfl⟩ hd|exact hv
 case load t x=>
  simp only [aC] at hst hv
  split at hst
  ·rename_i n hn
   simp only [hn,KOp.rd] at hv
   split at hv
   ·rename_i a ha
    obtain ⟨l,hl,rfl⟩:=Option.map_eq_some_iff.1 hv
    refine dT (s:=Instr.loadAt t (ev ρ x)) rfl ?_
    obtain ⟨h1,h2⟩:=lH hn w
    rw [ha]
    simp [Instr.loadAt,hX,loadVar,h1,h2,loadCells,run_loadCellsFrom n 0 #[] l hl]
   ·cases hv
  ·rename_i hn
   simp only [hn,KOp.rd] at hv
   split at hv
   ·rename_i a ha
    refine dT (s:=Instr.loadAt t (ev ρ x)) rfl ?_
    rw [ha]
    simp [Instr.loadAt,hX,loadVar,kZ hn w,load,Sem.run,hv]
   ·cases hv
  ·simp [KOp.isStill,KOp.isFix] at hst
 case fieldAddr t x i=>
  simp only [aC] at hst hv
  split at hst
  ·rename_i f hf
   split at hst
   ·rename_i inf hinf
    split at hst
    ·simp [KOp.isStill,KOp.isFix] at hst
    ·rename_i hz
     simp only [hf,hinf,if_neg hz,KOp.rd,KOp.fix] at hv
     split at hv
     ·rename_i a ha
      simp only [Option.some.injEq] at hv;subst hv
      obtain ⟨fs,hu,hfs⟩:=aAu hf
      refine dT (s:=Instr.fieldAt t (ev ρ x) i) rfl ?_
      rw [ha]
      simp [Instr.fieldAt,aA hu,hfs,hX,fieldPlace,bI hinf,hz]
     ·cases hv
   ·simp [KOp.isStill,KOp.isFix] at hst
  ·simp [KOp.isStill,KOp.isFix] at hst
 case indexAddr t x i=>
  simp only [aC] at hst hv
  split at hst
  ·rename_i e he
   split at hst
   ·rename_i inf hinf
    simp only [he,hinf,KOp.rd,KOp.fix] at hv
    split at hv
    ·rename_i a ln c k n hx hi
     split at hv
     ·rename_i hc
      simp only [Option.some.injEq] at hv;subst hv
      refine dT (s:=Instr.indexAt t (ev ρ x) (ev ρ i)) rfl ?_
      rw [hx,hi]
      simp [Instr.indexAt,asIntOf,aA he,bI hinf,hc]
     ·cases hv
    ·cases hv
   ·simp [KOp.isStill,KOp.isFix] at hst
  ·rename_i n e he
   split at hst
   ·rename_i inf hinf
    simp only [he,hinf,KOp.rd,KOp.fix] at hv
    split at hv
    ·rename_i a k m hx hi
     split at hv
     ·rename_i hc
      simp only [Option.some.injEq] at hv;subst hv
      refine dT (s:=Instr.indexAt t (ev ρ x) (ev ρ i)) rfl ?_
      rw [hx,hi]
      simp [Instr.indexAt,asIntOf,aA he,bI hinf,hX,hc]
     ·cases hv
    ·cases hv
   ·simp [KOp.isStill,KOp.isFix] at hst
  ·simp [KOp.isStill,KOp.isFix] at hst
 case field t x i=>
  simp only [aC] at hst hv
  split at hst
  ·rename_i f hf
   obtain ⟨fs,hu,hfs⟩:=aAu hf
   split at hst
   ·rename_i n hn
    simp only [hf,hn,KOp.rd,KOp.fix] at hv
    split at hv
    ·rename_i cs hx
     simp only [Option.some.injEq] at hv;subst hv
     refine dT (s:=Instr.field t (ev ρ x) i) rfl ?_
     rw [hx]
     obtain ⟨h1,h2⟩:=lH hn w
     simp [Instr.field,aA hu,hfs,asAgg,part,h1,h2]
    ·cases hv
   ·rename_i hn
    simp only [hf,hn,KOp.rd,KOp.fix] at hv
    split at hv
    ·rename_i cs hx
     refine dT (s:=Instr.field t (ev ρ x) i) rfl ?_
     rw [hx]
     simp [Instr.field,aA hu,hfs,asAgg,part,kZ hn w,hv]
    ·cases hv
   ·simp [KOp.isStill,KOp.isFix] at hst
  ·simp [KOp.isStill,KOp.isFix] at hst
 case extract x i=>
  simp only [aC,KOp.rd,KOp.fix] at hv
  split at hv
  ·rename_i vs hx
   refine dT (s:=Instr.extract (ev ρ x) i) rfl ?_
   rw [hx]
   simp [Instr.extract,hv]
  ·cases hv
 case index t x i=>
  simp only [aC] at hst hv
  split at hst
  ·rename_i hu
   simp only [hu,KOp.rd,KOp.fix] at hv
   split at hv
   ·rename_i s k n hx hi
    split at hv
    ·rename_i hn
     obtain ⟨b,hb,rfl⟩:=Option.map_eq_some_iff.1 hv
     refine dT (s:=Instr.index t (ev ρ x) (ev ρ i)) rfl ?_
     rw [hx,hi]
     simp [Instr.index,asIntOf,aA hu,hn,hb]
    ·cases hv
   ·cases hv
  ·rename_i n e he
   split at hst
   ·rename_i inf hagg hinf
    split at hst
    ·rename_i h1
     simp only [he,hagg,hinf,if_pos h1,KOp.rd,KOp.fix] at hv
     split at hv
     ·rename_i cs k m hx hi
      split at hv
      ·rename_i hc
       refine dT (s:=Instr.index t (ev ρ x) (ev ρ i)) rfl ?_
       rw [hx,hi]
       simp [Instr.index,asIntOf,aA he,hc,bI hinf,h1,part,kZ hagg w,hv]
      ·cases hv
     ·cases hv
    ·simp [KOp.isStill,KOp.isFix] at hst
   ·simp [KOp.isStill,KOp.isFix] at hst
  ·simp [KOp.isStill,KOp.isFix] at hst
 case unOp op t x=>
  cases op
  case not=>
   simp only [aC,KOp.rd,KOp.fix] at hv
   split at hv
   ·rename_i b hx
    simp only [Option.some.injEq] at hv;subst hv
    refine dT (s:=Op.unary .not (ev ρ x)) rfl ?_
    rw [hx];rfl
   ·cases hv
  case neg=>
   simp only [aC,KOp.rd,KOp.fix] at hv
   split at hv
   ·rename_i k n hx
    simp only [Bool.false_eq_true,if_false,cP,Option.some.injEq] at hv;subst hv
    refine dT (s:=Op.unary .neg (ev ρ x)) rfl ?_
    rw [hx];rfl
   ·cases hv
  case plus=>simp [aC,KOp.isStill,KOp.isFix] at hst
  case xor=>
   simp only [aC,KOp.rd,KOp.fix] at hv
   split at hv
   ·rename_i k n hx
    simp only [if_true,cP,Option.some.injEq] at hv;subst hv
    refine dT (s:=Op.unary .xor (ev ρ x)) rfl ?_
    rw [hx];rfl
   ·cases hv
 case nilCheck x=>
  have plain:(KOp.nilCheck x).rd ρ w=some v→(execOp (ev ρ) ⟨dst,.nilCheck x,ty,pos,after,guard⟩).run P w=.ok (.value v) w:=by
   intro hv
   simp only [KOp.rd,KOp.fix] at hv
   split at hv
   ·rename_i a hx
    simp only [Option.some.injEq] at hv;subst hv
    simp [execOp,hx]
   ·cases hv
  simp only [aC] at hv
  split at hv
  ·exact plain hv
  split at hv
  ·simp only [KOp.rd,KOp.fix] at hv
   split at hv
   ·rename_i name first captured hx
    split at hv
    ·rename_i t u hf
     split at hv
     ·rename_i hm
      simp only [Option.some.injEq] at hv;subst hv
      simp [execOp,hx,hf,aI1 hm]
     ·cases hv
    ·cases hv
   ·cases hv
  ·exact plain hv
 case makeFunc fn f c=>
  simp only [aC,KOp.rd,KOp.fix,Option.some.injEq] at hv;subst hv
  refine dT (s:=Instr.makeFunc fn (f.map (ev ρ)) (c.map (ev ρ))) rfl ?_
  rw [aM1,aM1];rfl
 case makeInterface t x=>
  simp only [aC] at hst hv
  split at hst
  ·simp [KOp.isStill,KOp.isFix] at hst
  ·rename_i d hn hu
   rw [hu] at hv
   refine dT (s:=Instr.makeInterface t (ev ρ x)) rfl ?_
   simp only [Instr.makeInterface,Sem.run_bind,aA hu,Result.andThen_ok]
   cases d<;>first
    |exact absurd rfl (hn _)
    |(simp only [KOp.rd,KOp.fix,Option.some.injEq] at hv;subst hv;rfl)
  ·simp [KOp.isStill,KOp.isFix] at hst
 case binOp op t x y yt=>
  have fin:∀{u:Value},(eqGuard op t x y (ev ρ x) (ev ρ y)).run P w=.ok () w→(binOp op t (ev ρ x) (ev ρ y)).run P w=.ok u w→
    (execOp (ev ρ) {dst:=dst,op:=.binOp op t x y yt,type:=ty,pos:=pos,after:=after,guard:=guard}).run P w=.ok (.value u) w:=fun h1 h2=>
   dT (s:=(do eqGuard op t x y (ev ρ x) (ev ρ y);binOp op t (ev ρ x) (ev ρ y))) rfl (by simp [h1,h2])
  have scal:∀{u:Value},bL op (ev ρ x) (ev ρ y)=some u→(execOp (ev ρ) {dst:=dst,op:=.binOp op t x y yt,type:=ty,pos:=pos,after:=after,guard:=guard}).run P w=.ok (.value u) w:=by
   intro u hu
   refine fin (oK fun p q=>?_) (aHw hu)
   constructor
   ·rintro ⟨h1,h2⟩;rw [h1,h2] at hu;simp [bL] at hu
   ·rintro ⟨h1,h2⟩;rw [h1,h2] at hu;simp [bL] at hu
  have nilc:∀{u:Value} {d:TypeDesc} {q:EqK},(op=.eql∨op=.neq)→P.underlying t=some d→eqK d=some q→(q=.iface→(Region.isConst x||Region.isConst y)=true)→
    ((yY q (ev ρ x) (ev ρ y)).map fun b=>Value.bool (if decide (op=.neq)=true then !b else b))=some u→
    (execOp (ev ρ) {dst:=dst,op:=.binOp op t x y yt,type:=ty,pos:=pos,after:=after,guard:=guard}).run P w=.ok (.value u) w:=by
   intro u d q hop hd hq hc hu
   obtain ⟨b,hb,rfl⟩:=Option.map_eq_some_iff.1 hu
   have he:=aMx (w:=w) hd hq hb
   have hna:∀p r,¬(ev ρ x=.agg p∧ev ρ y=.agg r):=by
    rintro p r ⟨h1,h2⟩;rw [h1,h2] at hb;cases q<;>simp [yY] at hb
   refine fin ?_ ?_
   ·by_cases hqi:q=.iface
    ·exact aGu (hc hqi) hna
    ·refine oK fun p r=>⟨?_,hna p r⟩
     rintro ⟨h1,h2⟩;rw [h1,h2] at hb;cases q<;>simp [yY] at hb hqi
   ·exact aVh hop hb he
  simp only [aC] at hst hv
  by_cases hop:op=.eql∨op=.neq
  ·simp only [if_pos hop] at hst hv
   cases hu:P.underlying t with
   |none=>rw [hu] at hst;simp [KOp.isStill,KOp.isFix] at hst
   |some d=>
    rw [hu] at hst hv
    cases d
    case int k=>exact scal hv
    case string=>exact scal hv
    case struct fs=>
     simp only at hst hv
     split at hst
     ·simp [KOp.isStill,KOp.isFix] at hst
     ·rename_i hg
      rw [if_neg hg] at hv
      cases hk:fC P 20 t with
      |none=>rw [hk] at hst;simp [KOp.isStill,KOp.isFix] at hst
      |some ks=>
       rw [hk] at hv
       simp only [KOp.rd,KOp.fix] at hv
       split at hv
       ·rename_i xs ys hx hy
        obtain ⟨b,hb,rfl⟩:=Option.map_eq_some_iff.1 hv
        have he:=aDw (w:=w) 20 t ks hk _ _ b hb 9980
        rw [dV hu,dV hu] at he
        refine fin (by rw [hx,hy];exact run_eqGuard_agg w _ _ _ _ _ _ (by simpa using hg)) ?_
        rw [hx,hy]
        rcases hop with rfl|rfl
        ·rw [run_eql_struct]
         have:(Op.equalIn 10000 t (.agg xs) (.agg ys)).run P w=.ok b w:=he
         rw [this];simp
        ·rw [run_neq_struct]
         have:(Op.equalIn 10000 t (.agg xs) (.agg ys)).run P w=.ok b w:=he
         rw [this];simp
       ·cases hv
    case interface ms=>
     simp only [eqK] at hst hv
     split at hst
     ·rename_i hc
      rw [if_pos hc] at hv
      exact nilc hop hu rfl (fun _=>hc) hv
     ·rename_i hc
      rw [if_neg hc] at hv
      simp only [KOp.rd,KOp.fix] at hv
      obtain ⟨b,hb,rfl⟩:=Option.map_eq_some_iff.1 hv
      have he:=aMm (w:=w) hu hb
      refine fin (oK fun p r=>⟨?_,?_⟩) (aOo hop hb he)
      ·rintro ⟨h1,h2⟩;rw [h1,h2] at hb;simp [nV] at hb
      ·rintro ⟨h1,h2⟩;rw [h1,h2] at hb;simp [nV] at hb
    case bool=>exact nilc hop hu rfl (fun h=>by cases h) hv
    case pointer e=>exact nilc hop hu rfl (fun h=>by cases h) hv
    case slice e=>exact nilc hop hu rfl (fun h=>by cases h) hv
    case map k e=>exact nilc hop hu rfl (fun h=>by cases h) hv
    case func a b c=>exact nilc hop hu rfl (fun h=>by cases h) hv
    all_goals simp [eqK,KOp.isStill,KOp.isFix] at hst
  ·simp only [if_neg hop] at hst hv
   exact fin (aGn hop) (aHw hv)
 case convert s d x=>
  simp only [aC] at hst hv
  split at hst
  ·rename_i ds k hs hd
   rw [hs,hd] at hv
   simp only [KOp.rd,KOp.fix] at hv
   split at hv
   ·rename_i k' n hx
    simp only [Option.some.injEq] at hv;subst hv
    refine dT (s:=convert s d (ev ρ x)) rfl ?_
    rw [hx]
    simp [convert,aA hs,aA hd,Conv.intToInt]
   ·cases hv
  ·rename_i hs hd
   rw [hs,hd] at hv
   simp only [KOp.rd,KOp.fix] at hv
   split at hv
   ·rename_i st hx
    simp only [Option.some.injEq] at hv;subst hv
    refine dT (s:=convert s d (ev ρ x)) rfl ?_
    rw [hx]
    simp [convert,aA hs,aA hd]
   ·cases hv
  ·split at hst<;>simp [KOp.isStill,KOp.isFix] at hst
  ·split at hst<;>simp [KOp.isStill,KOp.isFix] at hst
  ·simp [KOp.isStill,KOp.isFix] at hst
 case slice t x lo hi mx=>
  cases mx with
  |some m=>simp [aC,KOp.isStill,KOp.isFix] at hst
  |none=>
   simp only [aC] at hst hv
   split at hst
   ·rename_i hu
    rw [hu] at hv
    simp only [KOp.rd,KOp.fix] at hv
    split at hv
    ·rename_i st hx
     obtain ⟨h,e1,hv⟩:=Option.bind_eq_some_iff.1 hv
     obtain ⟨l,e2,rfl⟩:=Option.map_eq_some_iff.1 hv
     refine dT (s:=Instr.sliceAt t (ev ρ x) (lo.map (ev ρ)) (hi.map (ev ρ)) none) rfl ?_
     rw [hx]
     simp [Instr.sliceAt,aA hu,Instr.slice,aE6 false st.size st.size h l e1 e2]
    ·cases hv
   ·rename_i e hu
    split at hst
    ·rename_i inf hinf
     rw [hu] at hv
     simp only [hinf,KOp.rd,KOp.fix] at hv
     split at hv
     ·rename_i a ln cap hx
      obtain ⟨h,e1,hv⟩:=Option.bind_eq_some_iff.1 hv
      obtain ⟨l,e2,rfl⟩:=Option.map_eq_some_iff.1 hv
      refine dT (s:=Instr.sliceAt t (ev ρ x) (lo.map (ev ρ)) (hi.map (ev ρ)) none) rfl ?_
      rw [hx]
      simp [Instr.sliceAt,aA hu,Instr.slice,aE6 true ln cap h l e1 e2,bI hinf]
     ·cases hv
    ·simp [KOp.isStill,KOp.isFix] at hst
   ·simp [KOp.isStill,KOp.isFix] at hst
 case call c=>
  obtain ⟨callee,args,argTypes⟩:=c
  cases callee with
  |value f=>cases f<;>simp only [aC] at hst hnp<;>(repeat' split at hst)<;>simp_all [KOp.isStill,KOp.isFix,KOp.isPc]
  |invoke r m=>simp [aC,KOp.isStill,KOp.isFix] at hst
  |builtin b=>
   cases b
   case len=>
    simp only [aC] at hst hv
    split at hst
    ·rename_i x t hx ht
     have ea:args=#[x]:=by apply Array.ext';simpa using hx
     have et:argTypes=#[t]:=by apply Array.ext';simpa using ht
     subst ea;subst et
     have ex:∀{u:Value},(Builtin.len_ #[t] ty #[ev ρ x]).run P w=.ok u w→(execOp (ev ρ) {dst:=dst,op:=.call {callee:=.builtin .len,args:=#[x],argTypes:=#[t]},type:=ty,pos:=pos,after:=after,guard:=guard}).run P w=.ok (.value u) w:=by
      intro u hu
      simp [execOp,resolve,invoke,builtin,hu]
     simp only at hv
     split at hst
     ·rename_i hu
      rw [hu] at hv
      simp only [KOp.rd,KOp.fix] at hv
      split at hv
      ·rename_i s hs
       simp only [Option.some.injEq] at hv;subst hv
       refine ex ?_
       simp [Builtin.len_,aA hu,hs,goInt]
      ·cases hv
     ·rename_i e hu
      rw [hu] at hv
      simp only [KOp.rd,KOp.fix] at hv
      split at hv
      ·rename_i a n cc hs
       simp only [Option.some.injEq] at hv;subst hv
       refine ex ?_
       simp [Builtin.len_,aA hu,hs,goInt]
      ·cases hv
     ·rename_i k e hu
      rw [hu] at hv
      simp only [KOp.rd] at hv
      split at hv
      ·rename_i hs
       simp only [Option.some.injEq] at hv;subst hv
       refine ex ?_
       simp [Builtin.len_,aA hu,hs,goInt]
      ·rename_i r hs
       split at hv
       ·rename_i es cl hr
        simp only [Option.some.injEq] at hv;subst hv
        refine ex ?_
        have hg:(getObj r).run P w=.ok (.map es cl) w:=by simp [getObj,Sem.run,hr]
        simp [Builtin.len_,aA hu,hs,goInt,hg]
       ·cases hv
      ·cases hv
     ·simp [KOp.isStill,KOp.isFix] at hst
    ·simp [KOp.isStill,KOp.isFix] at hst
   case cap=>
    simp only [aC] at hst hv
    split at hst
    ·rename_i x t hx ht
     have ea:args=#[x]:=by apply Array.ext';simpa using hx
     have et:argTypes=#[t]:=by apply Array.ext';simpa using ht
     subst ea;subst et
     simp only at hv
     split at hst
     ·rename_i e hu
      rw [hu] at hv
      simp only [KOp.rd,KOp.fix] at hv
      split at hv
      ·rename_i a n cc hs
       simp only [Option.some.injEq] at hv;subst hv
       simp [execOp,resolve,invoke,builtin,Builtin.cap_,aA hu,hs,goInt]
      ·cases hv
     ·simp [KOp.isStill,KOp.isFix] at hst
    ·simp [KOp.isStill,KOp.isFix] at hst
   case min=>
    simp only [aC] at hst hv
    split at hst
    ·rename_i x ys hx
     rw [hx] at hv
     simp only [KOp.rd,KOp.fix] at hv
     have h2:((args.toList.map (ev ρ)).toArray:Array Value).toList=ev ρ x::ys.map (ev ρ):=by rw [hx];rfl
     have hm:=xI (P:=P) (w:=w) false ys (ev ρ x) v (by simpa using hv)
     have hb:(Builtin.min_ argTypes ty (args.toList.map (ev ρ)).toArray).run P w=.ok v w:=by
      unfold Builtin.min_;rw [h2];simpa using hm
     simp only [execOp,resolve,aM1,Sem.run_bind,Sem.run_pure,Result.andThen_ok,invoke,builtin,hb]
    ·simp [KOp.isStill,KOp.isFix] at hst
   case max=>
    simp only [aC] at hst hv
    split at hst
    ·rename_i x ys hx
     rw [hx] at hv
     simp only [KOp.rd,KOp.fix] at hv
     have h2:((args.toList.map (ev ρ)).toArray:Array Value).toList=ev ρ x::ys.map (ev ρ):=by rw [hx];rfl
     have hm:=xI (P:=P) (w:=w) true ys (ev ρ x) v (by simpa using hv)
     have hb:(Builtin.max_ argTypes ty (args.toList.map (ev ρ)).toArray).run P w=.ok v w:=by
      unfold Builtin.max_;rw [h2];simpa using hm
     simp only [execOp,resolve,aM1,Sem.run_bind,Sem.run_pure,Result.andThen_ok,invoke,builtin,hb]
    ·simp [KOp.isStill,KOp.isFix] at hst
   all_goals first
    |(simp [aC,KOp.isStill,KOp.isFix] at hst;done)
    |(simp only [aC] at hst;(repeat' split at hst)<;>simp [KOp.isStill,KOp.isFix] at hst)
 case lookup t m k ok=>
  simp only [aC] at hst hv
  split at hst
  ·rename_i s ks e hk
   split at hst
   ·rename_i z hz
    simp only [hk,hz,KOp.rd] at hv
    have hk':=hk
    unfold keyOf at hk'
    split at hk'
    ·rename_i kt et hu
     obtain ⟨ks',hks,heq⟩:=Option.map_eq_some_iff.1 hk'
     simp only [Prod.mk.injEq] at heq
     obtain ⟨hs,rfl,rfl⟩:=heq
     have hs':s=pI P kt:=hs.symm
     subst hs'
     obtain ⟨inf,hinf,hz'⟩:=Option.bind_eq_some_iff.1 hz
     have hzv:∀w,(zeroValue et).run P w=.ok z w:=fun w=>by simp [zeroValue,aW hinf,hz']
     rw [Option.ite_none_right_eq_some] at hv
     obtain ⟨hok,hv⟩:=hv
     refine dT (s:=Instr.lookup t (ev ρ m) (ev ρ k) ok) rfl ?_
     split at hv
     ·rename_i hm
      simp only [Option.some.injEq] at hv;subst hv
      rw [hm]
      have hf:(Instr.findKey kt (ev ρ k) []).run P w=.ok none w:=pV (r:=none) hks rfl
      have hck:=pF (w:=w) (em:=true) hks hok
      cases ok<;>simp [Instr.lookup,aA hu,hck,hf,hzv]
     ·rename_i r hm
      split at hv
      ·rename_i es cl hr
       obtain ⟨f,hf,rfl⟩:=Option.map_eq_some_iff.1 hv
       have hg:(getObj r).run P w=.ok (.map es cl) w:=by simp [getObj,Sem.run,hr]
       have hck:=pF (w:=w) (em:=es.isEmpty) hks hok
       have hfk:=pV (w:=w) hks hf
       rw [hm]
       cases f with
       |none=>cases ok<;>simp [Instr.lookup,aA hu,hg,hck,hfk,hzv]
       |some p=>obtain ⟨i,v⟩:=p;cases ok<;>simp [Instr.lookup,aA hu,hg,hck,hfk]
      ·cases hv
     ·cases hv
    ·cases hk'
   ·simp [KOp.isStill,KOp.isFix] at hst
  ·simp [KOp.isStill,KOp.isFix] at hst
 case build t parts=>
  simp only [aC] at hst hv
  split at hst
  ·rename_i inf hinf
   split at hst
   ·rename_i z hz
    split at hst
    ·rename_i ps hps
     split at hst
     ·rename_i hb
      simp only [hinf,hz,hps,if_pos hb,KOp.rd,KOp.fix] at hv
      obtain ⟨cs,hcs,rfl⟩:=Option.map_eq_some_iff.1 hv
      refine dT (s:=Instr.build t (parts.map fun p=>(p.1,ev ρ p.2))) rfl ?_
      exact aR8 hinf hz hps (fun p hp=>by have:=List.all_eq_true.1 hb p hp;simpa using this) hcs
     ·simp [KOp.isStill,KOp.isFix] at hst
    ·rename_i hps
     split at hst
     ·rename_i sz ha
      split at hst
      ·rename_i hb
       simp only [hinf,hz,hps,ha,if_pos hb,KOp.rd,KOp.fix] at hv
       obtain ⟨cs,hcs,rfl⟩:=Option.map_eq_some_iff.1 hv
       refine dT (s:=Instr.build t (parts.map fun p=>(p.1,ev ρ p.2))) rfl ?_
       exact aIx hinf hz ha (fun p hp=>by have:=List.all_eq_true.1 hb p hp;simpa using this) hcs
      ·simp [KOp.isStill,KOp.isFix] at hst
     ·simp [KOp.isStill,KOp.isFix] at hst
   ·simp [KOp.isStill,KOp.isFix] at hst
  ·simp [KOp.isStill,KOp.isFix] at hst
 case box t x=>simp [aC,KOp.isStill,KOp.isFix] at hst
 case makeMap t r=>cases r<;>simp [aC,KOp.isStill,KOp.isFix] at hst
 case next it b=>cases b<;>simp [aC,KOp.isStill,KOp.isFix] at hst
 case alloc t=>simp only [aC] at hst;(repeat' split at hst)<;>simp [KOp.isStill,KOp.isFix] at hst
 case store t x y=>simp only [aC] at hst;(repeat' split at hst)<;>simp [KOp.isStill,KOp.isFix] at hst
 all_goals first
  |(simp [aC,KOp.isStill,KOp.isFix] at hst;done)
  |(simp only [aC] at hst;(repeat' split at hst)<;>simp [KOp.isStill,KOp.isFix] at hst)
theorem aQw {f:FuncId} {vs:Array Value} (hb:dB P f=true):(callFunc f vs).run P w=.ok (.enter f vs) w:=by
 unfold dB at hb
 split at hb
 ·rename_i fn hfn
  simp only [Bool.and_eq_true,Bool.not_eq_true'] at hb
  have hne:fn.name≠ "runtime.NumGoroutine" :=by simpa using hb.2
  have hbn:fn.body≠none:=by intro hn;rw [hn] at hb;simp at hb
  simp [callFunc,hfn,hne,hbn]
 ·cases hb
theorem jU [Quiet P] (o:Oper) (v:Value) (hst:(aC P o).isStill=true) (hv:(aC P o).rd ρ w=some v):
  (execOp (ev ρ) o).run P w=.ok (.value v) w∨((execOp (ev ρ) o).run P w=.ok .skip w∧v=undef)∨∃f args,(execOp (ev ρ) o).run P w=.ok (.enter f args) w∧Calls P f args w (fun e w''=>e=.returned v∧w''=w):=by
 cases hp:(aC P o).isPc with
 |false=>exact .inl (rY o v hst hp hv)
 |true=>
  obtain ⟨dst,op,ty,pos,after,guard⟩:=o
  cases op
  case call c=>
   obtain ⟨callee,args,argTypes⟩:=c
   cases callee with
   |value fo=>
    cases fo with
    |func f=>
     simp only [aC] at hp hv
     split at hp
     ·rename_i hb
      rw [if_pos hb] at hv
      split at hp
      ·rename_i F hF
       rw [hF] at hv
       simp only [KOp.rd] at hv
       refine .inr (.inr ⟨f,(args.toList.map (ev ρ)).toArray,?_,Quiet.ok f F _ v w hF hv⟩)
       simp only [execOp,resolve,ev,Deferred.ofValue,Sem.run_bind,Sem.run_pure,Result.andThen_ok,invoke]
       rw [aM1]
       simpa using aQw hb
      ·simp [KOp.isPc] at hp
     ·simp [KOp.isPc] at hp
    |tmp t=>simp [aC,KOp.isPc] at hp
    |const v=>simp [aC,KOp.isPc] at hp
    |global g=>simp [aC,KOp.isPc] at hp
   |invoke r m=>simp [aC,KOp.isPc] at hp
   |builtin b=>cases b<;>simp only [aC] at hp<;>(repeat' split at hp)<;>simp [KOp.isPc] at hp
  case unOp op t x=>cases op<;>simp [aC,KOp.isPc] at hp
  case slice t x lo hi mx=>cases mx<;>simp only [aC] at hp<;>(repeat' split at hp)<;>simp [KOp.isPc] at hp
  case makeMap t r=>cases r<;>simp [aC,KOp.isPc] at hp
  case next it b=>cases b<;>simp [aC,KOp.isPc] at hp
  all_goals first
   |(simp [aC,KOp.isPc] at hp;done)
   |(simp only [aC] at hp;(repeat' split at hp)<;>simp [KOp.isPc] at hp)
end
end Go.K
