/- The engine, part 20: code by its shapes: read off the progra -/
import Derived.Test.YtgloknkcfchnlabGreatDoorZ4
set_option linter.unusedVariables false
set_option linter.unusedSimpArgs false
namespace Go.K
section
open Go
inductive Sh where
 |l (is:List Nat)
 |j (x y:Sh)
 |b (is:List Nat) (x y:Sh)
 |a
def bAb:List (Nat × KOp)→Nat→Option KOp
 | [],_=>none
 |(k,o)::l,i=>if Nat.beq k i then some o else bAb l i
def aYf (P:Program) [Quiet P] (ov:List (Nat × KOp)) (id:Nat) (ops:Array Oper) (i:Nat) (o:Oper):KI:=⟨o.dst,match bAb ov (id*1000+i) with
 |some k=>k
 |none=>aC P o,match o.guard with
 |none=>none
 |some (g,b)=>((ops[g]?).bind (·.dst)).map (·,b)⟩
def bA1 (P:Program) [Quiet P] (ov:List (Nat × KOp)) (id:Nat) (ops:Array Oper) (i:Nat):KI:=match ops[i]? with
 |some o=>aYf P ov id ops i o
 |none=>⟨none,.dead,none⟩
def aPr (P:Program) [Quiet P] (ov:List (Nat × KOp)) (id:Nat) (ops:Array Oper):List Nat→KR→KR
 | [],r=>r
 |i::is,r=>.cons (bA1 P ov id ops i) (aPr P ov id ops is r)
def aXz (P:Program) [Quiet P] (ov:List (Nat × KOp)) (id:Nat) (ops:Array Oper):Nat→List Oper→KR
 |_, []=>.nil
 |i,o::l=>.cons (aYf P ov id ops i o) (aXz P ov id ops (i+1) l)
def Sh.kr (P:Program) [Quiet P] (ov:List (Nat × KOp)) (id:Nat) (ops:Array Oper):Sh→KR
 |.l is=>aPr P ov id ops is .nil
 |.j x y=>.join (Sh.kr P ov id ops x) (Sh.kr P ov id ops y)
 |.b is x y=>aPr P ov id ops is (.both (Sh.kr P ov id ops x) (Sh.kr P ov id ops y))
 |.a=>.nil
def aVn (P:Program) [Quiet P] (ov:List (Nat × KOp)) (id:Nat) (ops:Array Oper):Nat→List Oper→List (KI × List Nat)
 |_, []=> []
 |i,o::l=>(aYf P ov id ops i o,aBf o)::aVn P ov id ops (i+1) l
def Sh.isA:Sh→Bool
 |.a=>true
 |_=>false
def aX6:List (Nat × Sh)→Nat→Sh
 | [],_=>.l []
 |(k,s)::l,i=>if Nat.beq k i then s else aX6 l i
def kS (P:Program) [Quiet P] (ss:List (Nat × Sh)) (ov:List (Nat × KOp)):Code→KC
 |.skip=>.skip
 |.region id ops true=>match (aX6 ss id).isA with
  |true=>.anyR (aVn P ov id ops 0 ops.toList)
  |false=>.reg true (Sh.kr P ov id ops (aX6 ss id))
 |.region id ops false=>.reg false (aXz P ov id ops 0 ops.toList)
 |.seq a b=>.seq (kS P ss ov a) (kS P ss ov b)
 |.cond x a b=>.cond x (kS P ss ov a) (kS P ss ov b)
 |.block id c=>.block id (kS P ss ov c)
 |.loop c=>.loop (kS P ss ov c)
 |.exit id=>.exit id
 |_=>.ret
theorem bAv (n:Nat):Int.ofNat (no_index (@OfNat.ofNat Nat n (instOfNatNat n)))=@OfNat.ofNat Int n (@instOfNat n):=rfl
theorem bA8:Int.negSucc (no_index (@OfNat.ofNat Nat 0 (instOfNatNat 0)))= -1:=rfl
theorem bA9 (n:Nat) (h:n<2^8):UInt8.ofBitVec (BitVec.ofFin ⟨no_index (@OfNat.ofNat Nat n (instOfNatNat n)),h⟩)=@OfNat.ofNat UInt8 n UInt8.instOfNat:=by
 apply UInt8.toNat_inj.1
 show n=n%2^8
 omega
theorem mkA {α:Type} (l:List α):Array.mk l=l.toArray:=rfl
structure HeldS (b:Prop):Prop where
 out:b
theorem oy {a b:Prop} (k:b) (h:HeldS b→a:=by (intro hheld;set_option maxRecDepth 100000 in (conv=>(arg 2;reduce;(try (dsimp only [bAv,bA8,mkA]));(try (simp only [bA9]))));exact hheld.out)):a:=h ⟨k⟩
end
end Go.K
