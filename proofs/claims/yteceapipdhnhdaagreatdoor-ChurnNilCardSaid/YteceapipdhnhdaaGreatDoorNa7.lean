/- The engine, part 20: code by its shapes: read off the progra -/
import Derived.Test.YteceapipdhnhdaaGreatDoorNa4
set_option linter.unusedVariables false
set_option linter.unusedSimpArgs false
namespace Go.K
section
open Go
inductive Sh where
 |l (is:List Nat)
 |j (x y:Sh)
 |b (is:List Nat) (x y:Sh)
 |a
def bRr:List (Nat × KOp)→Nat→Option KOp
 | [],_=>none
 |(k,o)::l,i=>if Nat.beq k i then some o else bRr l i
def bO8 (P:Program) [Quiet P] (ov:List (Nat × KOp)) (id:Nat) (ops:Array Oper) (i:Nat) (o:Oper):KI:=⟨o.dst,match bRr ov (id*1000+i) with
 |some k=>k
 |none=>aI P o,match o.guard with
 |none=>none
 |some (g,b)=>((ops[g]?).bind (·.dst)).map (·,b)⟩
def bR6 (P:Program) [Quiet P] (ov:List (Nat × KOp)) (id:Nat) (ops:Array Oper) (i:Nat):KI:=match ops[i]? with
 |some o=>bO8 P ov id ops i o
 |none=>⟨none,.dead,none⟩
def bCh (P:Program) [Quiet P] (ov:List (Nat × KOp)) (id:Nat) (ops:Array Oper):List Nat→KR→KR
 | [],r=>r
 |i::is,r=>.cons (bR6 P ov id ops i) (bCh P ov id ops is r)
def bOr (P:Program) [Quiet P] (ov:List (Nat × KOp)) (id:Nat) (ops:Array Oper):Nat→List Oper→KR
 |_, []=>.nil
 |i,o::l=>.cons (bO8 P ov id ops i o) (bOr P ov id ops (i+1) l)
def Sh.kr (P:Program) [Quiet P] (ov:List (Nat × KOp)) (id:Nat) (ops:Array Oper):Sh→KR
 |.l is=>bCh P ov id ops is .nil
 |.j x y=>.join (Sh.kr P ov id ops x) (Sh.kr P ov id ops y)
 |.b is x y=>bCh P ov id ops is (.both (Sh.kr P ov id ops x) (Sh.kr P ov id ops y))
 |.a=>.nil
def bJ9 (P:Program) [Quiet P] (ov:List (Nat × KOp)) (id:Nat) (ops:Array Oper):Nat→List Oper→List (KI × List Nat)
 |_, []=> []
 |i,o::l=>(bO8 P ov id ops i o,aKh o)::bJ9 P ov id ops (i+1) l
def Sh.isA:Sh→Bool
 |.a=>true
 |_=>false
def bO2:List (Nat × Sh)→Nat→Sh
 | [],_=>.l []
 |(k,s)::l,i=>if Nat.beq k i then s else bO2 l i
def kS (P:Program) [Quiet P] (ss:List (Nat × Sh)) (ov:List (Nat × KOp)):Code→KC
 |.skip=>.skip
 |.region id ops true=>match (bO2 ss id).isA with
  |true=>.anyR (bJ9 P ov id ops 0 ops.toList)
  |false=>.reg true (Sh.kr P ov id ops (bO2 ss id))
 |.region id ops false=>.reg false (bOr P ov id ops 0 ops.toList)
 |.seq a b=>.seq (kS P ss ov a) (kS P ss ov b)
 |.cond x a b=>.cond x (kS P ss ov a) (kS P ss ov b)
 |.block id c=>.block id (kS P ss ov c)
 |.loop c=>.loop (kS P ss ov c)
 |.exit id=>.exit id
 |_=>.ret
theorem bR2 (n:Nat):Int.ofNat (no_index (@OfNat.ofNat Nat n (instOfNatNat n)))=@OfNat.ofNat Int n (@instOfNat n):=rfl
theorem bSc:Int.negSucc (no_index (@OfNat.ofNat Nat 0 (instOfNatNat 0)))= -1:=rfl
theorem bSd (n:Nat) (h:n<2^8):UInt8.ofBitVec (BitVec.ofFin ⟨no_index (@OfNat.ofNat Nat n (instOfNatNat n)),h⟩)=@OfNat.ofNat UInt8 n UInt8.instOfNat:=by
 apply UInt8.toNat_inj.1
 show n=n%2^8
 omega
theorem mkA {α:Type} (l:List α):Array.mk l=l.toArray:=rfl
structure HeldS (b:Prop):Prop where
 out:b
theorem oy {a b:Prop} (k:b) (h:HeldS b→a:=by (intro hheld;set_option maxRecDepth 100000 in (conv=>(arg 2;reduce;(try (dsimp only [bR2,bSc,mkA]));(try (simp only [bSd]))));exact hheld.out)):a:=h ⟨k⟩
end
end Go.K
