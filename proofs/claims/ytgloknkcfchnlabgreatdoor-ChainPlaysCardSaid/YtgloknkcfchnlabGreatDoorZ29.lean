/- Contracts: the transaction of an act. Plain: what hangs on w -/
import Derived.Test.YtgloknkcfchnlabGreatDoorZ26
import Derived.Test.YtgloknkcfchnlabGreatDoorZ27
import Derived.Test.YtgloknkcfchnlabGreatDoorZ28
set_option linter.unusedVariables false
set_option linter.unusedSimpArgs false
namespace Go.Proofs.YtgloknkcfchnlabGreatDoor
section
open Go Go.K
attribute [local irreducible] aG aK aU KOp.wp K.Spec u32 leS vnS str aN cV bH idT aV aJ aO
theorem txO.off {B b:Nat} {M:List Nat} {w w':World} {ds:List Value} {t:Tx} (h:txO B ([b]++M) w ds t) (hb:b<B) (c:Chg [b] w w'):txO B M w' ds t:=by
 obtain ⟨iv,ov,rfl,o1,o2,o3⟩:=h
 have g1:=o1.base
 have g2:=o2.base
 have n1:b∉aH iv:=fun h=>by have:=g1 _ h;omega
 have n2:b∉aH ov:=fun h=>by have:=g2 _ h;omega
 exact ⟨iv,ov,rfl,o1.step c (by intro q hq;simp at hq;subst hq;exact ⟨n1,.inl (by simp)⟩) (fun _ h=>.inl (List.mem_append_right _ h)),o2.step c (by intro q hq;simp at hq;subst hq;exact ⟨n2,.inl (by simp)⟩) (fun _ h=>.inl (List.mem_append_right _ h)),o3⟩
theorem txO.lower {B B':Nat} {M:List Nat} {w:World} {ds:List Value} {t:Tx} (h:txO B M w ds t) (hb:B'≤B):txO B' M w ds t:=by
 obtain ⟨iv,ov,rfl,o1,o2,o3⟩:=h
 exact ⟨iv,ov,rfl,o1.lower hb,o2.lower hb,o3⟩
theorem txO.ext {B:Nat} {M:List Nat} {w w':World} {ds:List Value} {t:Tx} (h:txO B M w ds t) (c:Ext w w'):txO B M w' ds t:=by
 obtain ⟨iv,ov,rfl,o1,o2,o3⟩:=h
 exact ⟨iv,ov,rfl,o1.ext c,o2.ext c,o3⟩
theorem txO.one {B:Nat} {M:List Nat} {w:World} {ds:List Value} {t:Tx} (h:txO B M w ds t):ds.all (fun v=>v.oneCell')=true:=by
 obtain ⟨iv,ov,rfl,o1,o2,o3⟩:=h
 have e1:=o1.one
 have e2:=o2.one
 simp [aT,e1,e2];exact ⟨rfl,rfl⟩
end
end Go.Proofs.YtgloknkcfchnlabGreatDoor
namespace Go.K
section
open Go
variable {l:List Ent}
end
section
open Go
end
section
open Go
end
section
open Go Go.Proofs.YtgloknkcfchnlabGreatDoor
end
end Go.K
namespace Go.Proofs.YtgloknkcfchnlabGreatDoor
section
open Go Go.K
attribute [local irreducible] aG aK aU KOp.wp K.Spec u32 leS vnS str aN cV bH idT aV aJ aO
theorem SlR.one1 {α:Type} {E:R α} {M:List Nat} {w:World} {b:Nat} {t:TypeId} {cs:List Value} {a:α} (h:At w b (.cells cs.toArray t (0,0))) (hr:E.rel M w cs a) (hb:b∉M):SlR E M w (.slice (some ⟨b,0,none⟩) 1 1) [a]:=
 ⟨[R.vec hr],SlE.new (E:=fY E.k E.pos) (l:= [R.vec hr]) (t:=t) (by have e:(fY E.k E.pos).flat [R.vec hr]=cs:=(by show cs++ []=cs;exact List.append_nil _);rw [e];exact h) rfl (Nat.le_refl _),.cons hr .nil,fun _ c hc hm=>by simp [aH] at hc;subst hc;exact hb hm⟩
end
section
open Go Go.K
attribute [local irreducible] aG aK aU KOp.wp K.Spec u32 leS vnS str aN cV bH idT aV aJ aO
section
variable {P:Program} {d:Option Tmp} {r:KR} {K:Env→World→Prop} {ρ:Env} {w:World}
theorem aGc {α:Type} {E:R α} {M:List Nat} {size:Nat} {x h:Operand} {v:Value} {l:List α} {kd:IntKind} {n:Nat} {m:Int} {w1:World} (hx:ev ρ x=v) (hh:ev ρ h=.int kd m) (hm:m=(n:Nat)) (hs:SlR E M w1 v l) (hn:n≤l.length) (hk:size=E.k)
  (k:∀v',SlR E M w1 v' (l.take n)→aG P r K (put ρ d v') w):aG P (.cons ⟨d,.sliceSl size x none (some h),none⟩ r) K ρ w:=by
 subst hm
 obtain ⟨css,h1,h2,h3⟩:=hs
 have hl:=h2.length
 refine aTp (E:=fY E.k E.pos) hx hh h1 (by rw [hl];exact hn) hk fun v' h4 h5=>k v' ⟨css.take n,h4,?_,fun hp b hb=>h3 (by rw [List.length_take] at hp;omega) b (h5 b hb)⟩
 have:=h2.take n
 exact All2.take n h2
end
end
end Go.Proofs.YtgloknkcfchnlabGreatDoor
namespace Go.K
section
open Go
end
section
open Go Go.Proofs.YtgloknkcfchnlabGreatDoor
section
variable {l:List Ent} {t:Tx}
end
end
end Go.K
namespace Go.Proofs.YtgloknkcfchnlabGreatDoor
section
open Go Go.K
attribute [local irreducible] aG aK aU KOp.wp K.Spec u32 leS vnS str aN cV bH idT aV aJ aO
end
section
open Go Go.K
attribute [local irreducible] aG aK aU KOp.wp K.Spec u32 leS vnS str aN cV bH idT aV aJ aO spends
end
end Go.Proofs.YtgloknkcfchnlabGreatDoor
namespace Go.K
section
open Go Go.Proofs.YtgloknkcfchnlabGreatDoor
section
variable {l:List Ent} {t:Tx}
end
end
section
open Go Go.Proofs.YtgloknkcfchnlabGreatDoor
def bJ (s:ByteArray) (i:Nat):Nat:=(s.data.toList.getD i 0).toNat
theorem aSq (s:ByteArray) (i:Nat):bJ s i<256:=(s.data.toList.getD i 0).toNat_lt
def bN (s:ByteArray) (a:Nat):Nat→Nat
 |0=>0
 |k+1=>bJ s a+256*bN s (a+1) k
theorem eO (s:ByteArray):∀(k a:Nat),bN s a k<256^k
 |0,a=>by simp [bN]
 |k+1,a=>by
  have h1:=aSq s a
  have h2:=eO s k (a+1)
  simp only [bN,Nat.pow_succ];omega
theorem aFd (s:ByteArray):∀(k a:Nat),bN s a (k+1)=bN s a k+bJ s (a+k)*256^k
 |0,a=>by simp [bN]
 |k+1,a=>by
  rw [bN,aFd s k (a+1),bN,show a+1+k=a+(k+1) by omega,Nat.pow_succ,Nat.mul_add,Nat.add_assoc,Nat.mul_left_comm,Nat.mul_comm 256 (256^k)]
theorem aRo (s:ByteArray) (a:Nat):bN s a 2=bJ s a+256*bJ s (a+1):=by simp [bN]
structure Br where
 tag:Nat
 delay:Nat
 height:Nat
deriving DecidableEq
def sH (s:ByteArray) (i:Nat):Br:=⟨bN s (1+8*i) 2,bN s (3+8*i) 2,bN s (5+8*i) 4⟩
structure BrOk (b:Br):Prop where
 tag:b.tag<65536
 delay:b.delay<65536
 height:b.height<4294967296
theorem aQs (s:ByteArray) (i:Nat):BrOk (sH s i):=⟨eO s 2 _,eO s 2 _,eO s 4 _⟩
def brE:Enc Br:=⟨fun b=> [.int .u16 (b.tag:Nat),.int .u16 (b.delay:Nat),.int .u32 (b.height:Nat)],3,fun _=>rfl,by decide,by
 intro x v hv
 simp at hv
 rcases hv with rfl|rfl|rfl<;>rfl⟩
def pG (s:ByteArray):Nat:=(s.size - 1) / 8
def fQ (s:ByteArray):Bool:=(decide (s.size=9)||decide (s.size=17)||decide (s.size=25))&&decide (bJ s 0=pG s)
def iG (s:ByteArray):List Br:=(List.range (pG s)).map (sH s)
def aMt (b:Br):Bool:=decide (b.height≤1000000)
def bX (s:ByteArray):List Br:=if fQ s&&(iG s).all aMt then iG s else []
def eU (l:List ByteArray):Option (Nat × Nat):=if l.length=1∧(l.headD default).size=3∧bJ (l.headD default) 0<3 then some (bJ (l.headD default) 0,bN (l.headD default) 1 2) else none
def cD (s:ByteArray) (wit:List ByteArray):Option Br:=(eU wit).bind fun p=>((bX s)[p.1]?).bind fun b=>if b.tag=0∨b.tag=p.2 then some b else none
def eB (t:Tx) (x:TIn):Int:=if x.q<2147483648∧t.ver≥2 then x.q%65536 else 0
def eZ (s:ByteArray) (t:Tx) (x:TIn):Int:=match cD s x.wit with
 |none=>9
 |some b=>if eB t x<(b.delay:Int) then 10 else if b.height>0∧(t.lock<(b.height:Int)∨x.q=4294967295) then 10 else 0
def gT (n:Int):Bool:=decide (0≤n∧n≤1000000)
def fE (t:Tx) (x:TIn) (coin block:Int):Bool:=gT coin&&gT block&&decide (coin+eB t x≤block)&&(decide (t.lock<block)||t.ins.all fun y=>decide (y.q=4294967295))
def inE (v:Pt→Option Cn) (t:Tx) (h:Int) (x:TIn):Int:=match v x.p with
 |none=>8
 |some c=>if eZ c.s t x≠0 then eZ c.s t x else if fE t x c.h h then 0 else 10
def inV (v:Pt→Option Cn) (x:TIn):Int:=((v x.p).getD cn0).v
def gY (v:Pt→Option Cn) (t:Tx) (h:Int):Int × Int × Int:=
 if aJ t≠0 then (0,aJ t, -1) else if aO t then (0,4, -1) else
 match t.ins.findIdx? fun x=>decide (inE v t h x≠0) with
 |some i=>(0,inE v t h (t.ins.getD i default),(i:Nat))
 |none=>if kG (t.ins.map (inV v))≠0 then (0,kG (t.ins.map (inV v)), -1) else
  if gG (values t)>gG (t.ins.map (inV v)) then (0,12, -1) else (gG (t.ins.map (inV v)) - gG (values t),0, -1)
end
end Go.K
namespace Go.Proofs.YtgloknkcfchnlabGreatDoor
section
open Go Go.K
attribute [local irreducible] aG aK aU KOp.wp K.Spec u32 leS vnS str aN bN bJ
theorem gK {s:ByteArray} {i:Nat} (h:i<s.size):bJ s i=s[i].toNat:=by
 unfold bJ
 rw [List.getD_eq_getElem?_getD,List.getElem?_eq_getElem (by simpa using h)]
 rfl
theorem bAy {n:Nat} (h:n<256^7):bL .shl (.int .u64 (n:Nat)) (.int .u64 8)=some (.int .u64 ((n*256:Nat):Int)):=by
 simp only [bL,dJ,if_true]
 rw [if_neg (by decide)]
 show some (Value.int .u64 (IntKind.u64.wrap ((n:Int)*256)))=_
 rw [dO (by omega) (by omega)];rfl
theorem or8 {n b:Nat} (h:n<256^7) (hb:b<256):bL .or (.int .u64 ((n*256:Nat):Int)) (.int .u64 (b:Nat))=some (.int .u64 ((b+256*n:Nat):Int)):=by
 simp only [bL,dJ,Bool.false_eq_true,if_false,if_true,cP,IntKind.bits]
 have e:(BitVec.ofInt 64 ((n*256:Nat):Int)|||BitVec.ofInt 64 (b:Nat)).toNat=b+256*n:=by
  rw [BitVec.toNat_or,BitVec.toNat_ofInt,BitVec.toNat_ofInt]
  rw [show (((n*256:Nat):Int)%((2^64:Nat):Int)).toNat=n<<<8 by rw [Nat.shiftLeft_eq];omega,show (((b:Nat):Int)%((2^64:Nat):Int)).toNat=b by omega]
  rw [←Nat.shiftLeft_add_eq_or_of_lt (by omega:b<2^8),Nat.shiftLeft_eq];omega
 exact (congrArg (fun x:Nat=>some (Value.int .u64 (IntKind.u64.wrap (x:Int)))) e).trans (congrArg (fun x=>some (Value.int .u64 x)) (dO (by omega) (by omega)))
set_option maxHeartbeats 400000 in
theorem aSp (s:ByteArray) (a k:Nat) (hk:k=1∨k=2∨k=4∨k=8) (hs:a+k≤s.size) (hm:s.size≤100000000) (w:World):K.Spec Tryz.prog F.octet_Get [.string s,.int .i64 (a:Nat),.int .i64 (k:Nat)] w fun r w'=>r=.tuple #[.int .u64 (bN s a k:Nat),.bool true]∧Ext w w':=by
 have hk8:k≤8:=by omega
 refine aL0 rfl ?_
 unfold aDd
 refine oy ?_
 repeat' (first|refine go1 ?_|refine zg λ_ _=>?_|refine zi λ_ _=>?_|(refine zC (d:=some 11) rfl (aE1 k hk _) ?_;rintro _ w1 ⟨rfl,x1⟩)|refine zJ (p:=(a:Int)<0) rfl (fun h=>absurd h (by omega)) (fun _=>?_)|refine zL (p:=(a:Int)>(s.size:Int) - (k:Int)) rfl (fun h=>absurd h (by omega)) (fun _=>?_)|(refine aL (fun (j:Nat) w'=>Ext w w'∧j≤k) (fun j=> [(0,.string s),(1,.int .i64 (a:Nat)),(8,.int .u64 (bN s (a+k - j) j:Nat)),(9,.int .i64 ((a:Int)+(k:Int) - 1 - (j:Int)))]) (fun j=>k - j) 0 ⟨rfl,rfl,(by unfold bN;rfl),congrArg (Value.int .i64) (by omega),trivial⟩ ⟨x1,by omega⟩ ?_;rintro j ρ w3 ⟨x3,hj⟩))
 refine zL (p:=(a:Int)+(k:Int) - 1 - (j:Int)≥(a:Int)) rfl (fun h=>?_) (fun h=>?_)
 ·have hjk:j<k:=by omega
  have hlt:=eO s j (a+k - j)
  have hp:256^j≤256^7:=Nat.pow_le_pow_right (by decide) (by omega)
  have hn7:bN s (a+k - j) j<256^7:=nLt hlt hp
  have hi:a+k - 1 - j<s.size:=by omega
  have hb:=s[a+k - 1 - j].toNat_lt
  have e:bN s (a+k - (j+1)) (j+1)=s[a+k - 1 - j].toNat+256*bN s (a+k - j) j:=by
   conv=>lhs;unfold bN
   rw [show a+k - (j+1)=a+k - 1 - j by omega,gK hi,show a+k - 1 - j+1=a+k - j by omega]
  generalize hN:bN s (a+k - j) j=n at hn7 e hlt ⊢
  generalize hB:s[a+k - 1 - j].toNat=b at hb e
  have f35:=bAy hn7
  have f40:=or8 hn7 hb
  repeat (first|refine aD (d:=some 35) (.int .u64 ((n*256:Nat):Int)) rfl f35 ?_|(refine fL (d:=some 38) (k:=.i64) (n:=a+k - 1 - j) rfl (congrArg (Value.int .i64) (by omega)) hi ?_;rw [hB])|refine aD (d:=some 39) (.int .u64 (b:Nat)) rfl (congrArg (fun n=>some (Value.int .u64 n)) (dO (by omega) (by omega))) ?_|refine aD (d:=some 40) (.int .u64 ((b+256*n:Nat):Int)) rfl f40 ?_|refine go1 ?_|refine zg λ_ _=>?_|refine zi λ_ _=>?_)
  exact ⟨j+1,⟨rfl,rfl,congrArg (fun n:Nat=>Value.int .u64 n) e.symm,congrArg (Value.int .i64) (by omega),trivial⟩,⟨x3,by omega⟩,by omega⟩
 ·have e:j=k:=by omega
  subst e
  repeat (first|refine go1 ?_|refine zg λ_ _=>?_|refine zi λ_ _=>?_)
  exact aB rfl ⟨congrArg (fun n:Nat=>Value.tuple #[.int .u64 (n:Int),.bool true]) (congrArg (fun z=>bN s z j) (show a+j - j=a by omega)),x3⟩
theorem nY (s:ByteArray) (a k:Nat) (hk:k=1∨k=2∨k=4∨k=8) (hs:a+k≤s.size) (hm:s.size≤100000000) (w:World):K.Spec Tryz.prog F.lock_number [.string s,.int .i64 (a:Nat),.int .i64 (k:Nat)] w fun r w'=>r=.int .u64 (bN s a k:Nat)∧Ext w w':=by
 refine aGt rfl ?_
 unfold vZ
 refine oy ?_
 repeat' (first|refine go1 ?_|refine zg λ_ _=>?_|refine zi λ_ _=>?_|(refine zC (d:=some 13) rfl (aSp s a k hk hs hm _) ?_;rintro _ w1 ⟨rfl,x1⟩))
 exact aB rfl ⟨rfl,x1⟩
end
section
open Go Go.K
attribute [local irreducible] aG aK aU KOp.wp K.Spec u32 leS vnS str aN bN bJ
theorem aSr (n:Nat) (hn:n<18446744073709551616) (w:World):K.Spec Tryz.prog F.octet_Put [.int .u64 (n:Nat),.int .i64 1] w fun r w'=>r=.string (leS n 1)∧Ext w w':=sK n 1 (by decide) hn w
theorem aIi (n:Nat) (hn:n<18446744073709551616) (w:World):K.Spec Tryz.prog F.octet_Put [.int .u64 (n:Nat),.int .i64 2] w fun r w'=>r=.string (leS n 2)∧Ext w w':=sK n 2 (by decide) hn w
theorem aQ5 (n:Nat) (hn:n<18446744073709551616) (w:World):K.Spec Tryz.prog F.octet_Put [.int .u64 (n:Nat),.int .i64 4] w fun r w'=>r=.string (leS n 4)∧Ext w w':=sK n 4 (by decide) hn w
def aAg (l:List Br):Int:=if l.length<1∨3<l.length then 6 else if l.all aMt then 0 else 3
set_option maxHeartbeats 1000000 in
theorem aRl {v : Value} {l : List Br} (w : World) (hv : SlE brE w v l) (ho : ∀ b ∈ l, BrOk b) : K.Spec Tryz.prog F.lock_Put [v] w fun r w' => ∃ s, r = .tuple #[.string s, .int .i64 (aAg l)] ∧ Ext w w' := by
  refine aPh rfl ?_
  unfold aEb
  refine oy ?_
  repeat' (first|refine bP (E := brE) (l := l) rfl (SlE.ext (w := w) (by exact fx) hv) ?_|refine zJ (p := ((l.length : Nat) : Int) < 1) rfl (fun h => ?_) (fun h => ?_)|refine zL (p := ((l.length : Nat) : Int) > 3) rfl (fun h => ?_) (fun h => ?_)|(refine zH (d := some 4) (fun b w0 x0 a0 hb0 => ?_); have hW : mT b b ⟨#[]⟩ w0 := (Bld.new (Nat.le_refl _) a0))|refine aD (d := some 17) (.int .u64 (l.length : Nat)) rfl (congrArg (fun n => some (Value.int .u64 n)) (dO (by omega) (by omega))) ?_|(refine zC (d := some 18) rfl (aSr l.length (by omega) _) ?_; rintro _ w1 ⟨rfl, x1⟩)|(refine zC (d := some 19) rfl (dQ (leS l.length 1) _ (by exact fx) (by decide) (by rw [cE]; decide)) ?_; rintro _ w2 ⟨hW2, rW, hS⟩; have xW := rW.ext (w0 := w) (by exact fx) hb0; replace hS : ((⟨#[]⟩ : ByteArray) ++ leS l.length 1).size ≤ 2000000 := (nTr hS (by decide)); clear hW x0 x1)|(refine aL (fun (p : Nat × ByteArray) w' => Ext w w' ∧ p.1 ≤ l.length ∧ mT b b p.2 w' ∧ p.2.size ≤ 2000000 + 1000000 * p.1 ∧ (l.take p.1).all aMt = true) (fun p => [(4, .pointer (some ⟨b, 0, none⟩)), (20, v), (21, .int .i64 (l.length : Nat)), (22, .int .i64 p.1)]) (fun p => l.length - p.1) (0, _) ⟨rfl, rfl, rfl, rfl, trivial⟩ ⟨by exact fx, by simp, by exact fx, by simpa using hS, by simp⟩ ?_; rintro ⟨i, s⟩ ρ w3 ⟨x3, hi, hW3, hS3, ha⟩; simp only at hi hW3 hS3 ha; dsimp only)|refine zL (p := ((i : Nat) : Int) < ((l.length : Nat) : Int)) rfl (fun h => ?_) (fun h => ?_)|refine go1 ?_|refine zg λ_ _=>?_|refine zi λ_ _=>?_)
  · exact aB rfl ⟨_, by rw [aAg, if_pos (by omega)]; rfl, by exact fx⟩
  · exact aB rfl ⟨_, by rw [aAg, if_pos (by omega)]; rfl, by exact fx⟩
  · have hil : i < l.length := by omega
    have hok := ho _ (gMe hil)
    have h1 := hok.tag
    have h2 := hok.delay
    have h3 := hok.height
    refine aQ (d := some 24) (E := brE) rfl rfl (n := i) (l := l) (hv.ext x3) rfl hil (fun ad r4 => ?_)
    have r4 : Row w3 ad [.int .u16 (l[i].tag : Nat), .int .u16 (l[i].delay : Nat), .int .u32 (l[i].height : Nat)] := r4
    have hb3 : w.heap.size ≤ b := hb0
    repeat' (first|(refine zE (d' := 6) (fun _=>rfl) rfl rfl rfl (fun b6 w6 x6 a6 (r6 : Row w6 ⟨b6, 0, none⟩ [.int .u16 (l[i].tag : Nat), .int .u16 (l[i].delay : Nat), .int .u32 (l[i].height : Nat)]) hb6=>?_); have hne : b6 ≠ b := (by have := hW3.lt; omega))|refine go1 ?_|refine zg λ_ _=>?_|refine zi λ_ _=>?_)
    refine zL (p := ((l[i].height : Nat) : Int) > 1000000) rfl (fun h => ?_) (fun h => ?_)
    · repeat (first|refine go1 ?_|refine zg λ_ _=>?_|refine zi λ_ _=>?_)
      refine aB rfl ⟨⟨#[]⟩, ?_, Ext.trans x3 x6⟩
      have e : aAg l = 3 := by
       rw [aAg, if_neg (by omega), if_neg]
       rw [List.all_eq_true]
       intro hall
       have := hall _ (gMe hil)
       unfold aMt at this
       have := of_decide_eq_true this
       omega
      rw [e]; rfl
    · have hlow : (l.take (i + 1)).all aMt = true := by
        rw [List.take_succ_eq_append_getElem hil, List.all_append, ha]
        simp only [List.all_cons, List.all_nil, Bool.and_true, Bool.true_and]
        exact dTr (by omega)
      have hW6 : mT b b s w6 := hW3.ext x6
      have x06 : Ext w w6 := x3.trans x6
      clear hW3 hW2 x6 x3 r4 xW rW
      repeat' (first|refine zg (fun w7 x7 => ?_)|refine zA ?_|refine lI ?_ ?_|refine aD (d := some 31) (.int .u64 (l[i].tag : Nat)) rfl (congrArg (fun n => some (Value.int .u64 n)) (dO (by omega) (by omega))) ?_|refine aD (d := some 35) (.int .u64 (l[i].delay : Nat)) rfl (congrArg (fun n => some (Value.int .u64 n)) (dO (by omega) (by omega))) ?_|refine aD (d := some 40) (.int .u64 (l[i].height : Nat)) rfl (congrArg (fun n => some (Value.int .u64 n)) (dO (by omega) (by omega))) ?_|(refine zC (d := some 32) rfl (aIi l[i].tag (by omega) _) ?_; rintro _ w8 ⟨rfl, x8⟩)|(refine zC (d := some 36) rfl (aIi l[i].delay (by omega) _) ?_; rintro _ w9 ⟨rfl, x9⟩)|(refine zC (d := some 41) rfl (aQ5 l[i].height (by omega) _) ?_; rintro _ w10 ⟨rfl, x10⟩)|refine kA (d := some 37) rfl rfl (by rw [cE, cE]; decide) ?_|refine kA (d := some 42) rfl rfl (by rw [ByteArray.size_append, cE, cE, cE]; decide) ?_|(refine zC (d := some 43) rfl (dQ (leS l[i].tag 2 ++ leS l[i].delay 2 ++ leS l[i].height 4) _ (by exact fx) (by omega) (by rw [ByteArray.size_append, ByteArray.size_append, cE, cE, cE]; decide)) ?_; rintro _ w11 ⟨hW11, rW11, hS11⟩; have xW11 := rW11.ext (w0 := w) (by exact fx) hb3)|refine go1 ?_|refine zg λ_ _=>?_|refine zi λ_ _=>?_)
      all_goals exact ⟨(i + 1, _), ⟨rfl, rfl, rfl, rfl, trivial⟩, ⟨xW11, hil, hW11, nTr hS11 (by omega), hlow⟩, by show l.length - (i + 1) < l.length - i; omega⟩
  · have ei : i = l.length := by omega
    subst ei
    rw [List.take_length] at ha
    repeat' (first|refine go1 ?_|refine zg λ_ _=>?_|refine zi λ_ _=>?_|(refine zC (d := some 45) rfl (aB8 _ (by exact fx)) ?_; rintro _ w9 ⟨rfl, hW9, rW9⟩; have xW9 := rW9.ext (w0 := w) (by exact fx) hb0))
    exact aB rfl ⟨_, by rw [aAg, if_neg (by omega), if_pos ha]; rfl, by exact fx⟩
end
section
open Go Go.K
attribute [local irreducible] aG aK aU KOp.wp K.Spec u32 leS vnS str aN bN bJ
theorem aEx {s:ByteArray} (h:¬(s.size=1+8*bJ s 0∧bJ s 0≤3)):bX s= []:=by
 unfold bX
 rw [if_neg]
 intro h2
 apply h
 simp only [fQ,Bool.and_eq_true,Bool.or_eq_true,decide_eq_true_eq] at h2
 obtain ⟨⟨h3,h4⟩,_⟩:=h2
 have h4:bJ s 0=(s.size - 1) / 8:=h4
 omega
theorem aU4 {s:ByteArray} (h:s.size=1+8*bJ s 0) (h3:bJ s 0≤3):pG s=bJ s 0∧bX s=if aAg (iG s)=0 then iG s else []:=by
 have hn:pG s=bJ s 0:=by unfold pG;omega
 refine ⟨hn,?_⟩
 have hl:(iG s).length=bJ s 0:=by simp [iG,hn]
 unfold bX aAg
 by_cases h0:bJ s 0=0
 ·have e:fQ s=false:=by
   cases hf:fQ s with
   |false=>rfl
   |true=>
    simp only [fQ,Bool.and_eq_true,Bool.or_eq_true,decide_eq_true_eq] at hf
    omega
  rw [e,if_pos (by omega:(iG s).length<1∨3<(iG s).length)];rfl
 ·have hf:fQ s=true:=by
   simp only [fQ,Bool.and_eq_true,Bool.or_eq_true,decide_eq_true_eq]
   omega
  rw [hf,Bool.true_and,if_neg (by omega:¬((iG s).length<1∨3<(iG s).length))]
  cases hb:(iG s).all aMt<;>rfl
theorem aLj {s:ByteArray} {i:Nat}:(List.range (i+1)).map (sH s)=(List.range i).map (sH s)++ [sH s i]:=by rw [List.range_succ,List.map_append];rfl
theorem tI {n:Nat} (h:n<65536):IntKind.u16.wrap (n:Int)=(n:Int):=by show (n:Int)%65536=n;omega
theorem aGe {n:Nat} (h:n<4294967296):IntKind.u32.wrap (n:Int)=(n:Int):=by show (n:Int)%4294967296=n;omega
theorem aQ2 {P:Program} {d:Option Tmp} {r:KR} {K:Env→World→Prop} {ρ:Env} {w:World} {α:Type} {E:Enc α} {size:Nat} {x i:Operand} {v:Value} {l:List α} {kd:IntKind} {n:Nat} (hx:ev ρ x=v) (hi:ev ρ i=.int kd (n:Nat)) (hs:SlE E w v l) (hk:size=E.k) (hr:n<l.length) (k:∀ad,Row w ad (E.f l[n])→ad.block∈aH v→aG P r K (put ρ d (.pointer (some ad))) w):aG P (.cons ⟨d,.indexAddr size x i,none⟩ r) K ρ w:=by
 subst hk
 obtain ⟨a,cap,hv,hrow⟩:=Sl.at_ hs E.pos hr
 subst hv
 exact cJ rfl (by simp [KOp.fix,hx,hi,hr]) (k (a.add (n*E.k)) (by rw [E.flat_at l n hr] at hrow;exact hrow) (by simp [aH,add_block]))
set_option maxHeartbeats 1000000 in
theorem aSm (s:ByteArray) (hm:s.size≤1000000) (w:World):K.Spec Tryz.prog F.lock_Get [.string s] w fun r w'=>∃v e,r=.tuple #[v,.int .i64 e]∧SlE brE w' v (bX s)∧(e≠0→bX s= [])∧(∀b∈aH v,w.heap.size≤b)∧Ext w w':=by
 refine aPt rfl ?_
 unfold aEv
 refine oy ?_
 by_cases h0:s=⟨#[]⟩
 ·have hb:bX s= []:=aEx (by subst h0;have:(⟨#[]⟩:ByteArray).size=0:=rfl;omega)
  rw [hb]
  repeat' (first|refine aD (d:=some 9) (.bool true) rfl (congrArg (fun b=>some (Value.bool b)) (dTr h0)) ?_|refine go1 ?_|refine zg λ_ _=>?_|refine zi λ_ _=>?_)
  exact aB rfl ⟨.slice none 0 0,_,rfl,SlE.nil _,fun _=>rfl,(fun b hb=>absurd hb (by simp [aH])),Ext.refl _⟩
 have hsz:0<s.size:=by
  rcases Nat.eq_zero_or_pos s.size with h|h
  ·exact absurd (ByteArray.ext (Array.eq_empty_of_size_eq_zero (by simpa using h))) h0
  ·exact h
 have hb0:=gK hsz
 have hb8:=s[0].toNat_lt
 obtain ⟨n,hn⟩:∃n:Nat,n=s[0].toNat:=⟨_,rfl⟩
 rw [←hn] at hb0 hb8
 have pre:s.size=1+8*bJ s 0∧bJ s 0≤3∨¬(s.size=1+8*bJ s 0∧bJ s 0≤3):=by omega
 repeat' (first|refine aD (d:=some 9) (.bool false) rfl (congrArg (fun b=>some (Value.bool b)) (dFa h0)) ?_|(refine fL (d:=some 12) (k:=.i64) (n:=0) rfl rfl hsz ?_;rw [←hn])|refine aD (d:=some 13) (.int .i64 (n:Nat)) rfl (congrArg (fun n=>some (Value.int .i64 n)) (mW (by omega))) ?_|refine zJ (p:=((n:Nat):Int)>3) rfl (fun h=>?_) (fun h=>?_)|(refine fL (d:=some 20) (k:=.i64) (n:=0) rfl rfl hsz ?_;rw [←hn])|refine aD (d:=some 21) (.int .i64 (n:Nat)) rfl (congrArg (fun n=>some (Value.int .i64 n)) (mW (by omega))) ?_|refine oO (d:=some 22) (a:=8) (b:=(n:Nat)) rfl rfl (by omega) ?_|refine zN (p:=((s.size:Nat):Int)=1+8*((n:Nat):Int)) rfl (fun h=>?_) (fun h=>?_)|(refine aL (fun (p:Nat × Value) w'=>Ext w w'∧p.1≤n∧Own brE T.api_Branch w.heap.size w' p.2 ((List.range p.1).map (sH s))) (fun p=> [(0,.string s),(4,p.2),(5,.int .i64 (1+8*(p.1:Int)))]) (fun p=>n - p.1) (0,.slice none 0 0) ⟨rfl,rfl,rfl,trivial⟩ ⟨Ext.refl _,by simp,Own.nil _ _ _⟩ ?_;rintro ⟨i,v4⟩ ρ w3 ⟨x3,hi,ho⟩;simp only at hi ho;dsimp only)|refine zL (p:=1+8*((i:Nat):Int)<((s.size:Nat):Int)) rfl (fun h=>?_) (fun h=>?_)|refine go1 ?_|refine zg λ_ _=>?_|refine zi λ_ _=>?_)
 ·rw [aEx (by omega)]
  exact aB rfl ⟨.slice none 0 0,_,rfl,SlE.nil _,fun _=>rfl,(fun b hb=>absurd hb (by simp [aH])),Ext.refl _⟩
 ·rw [aEx (by omega)]
  exact aB rfl ⟨.slice none 0 0,_,rfl,SlE.nil _,fun _=>rfl,(fun b hb=>absurd hb (by simp [aH])),Ext.refl _⟩
 ·have hin:i<n:=by omega
  have q1:=eO s 2 (1+8*i)
  have q2:=eO s 2 (3+8*i)
  have q3:=eO s 4 (5+8*i)
  repeat' (first|(refine zC (d:=some 35) (congrArg (fun z=> [Value.string s,Value.int .i64 z,Value.int .i64 2]) (by omega)) (nY s (1+8*i) 2 (by decide) (by omega) (by omega) _) ?_;rintro _ w4 ⟨rfl,x4⟩)|refine aD (d:=some 36) (.int .u16 (bN s (1+8*i) 2:Nat)) rfl (congrArg (fun n=>some (Value.int .u16 n)) (tI q1)) ?_|(refine zC (d:=some 40) (congrArg (fun z=> [Value.string s,Value.int .i64 z,Value.int .i64 2]) (by omega)) (nY s (3+8*i) 2 (by decide) (by omega) (by omega) _) ?_;rintro _ w5 ⟨rfl,x5⟩)|refine aD (d:=some 41) (.int .u16 (bN s (3+8*i) 2:Nat)) rfl (congrArg (fun n=>some (Value.int .u16 n)) (tI q2)) ?_|(refine zC (d:=some 45) (congrArg (fun z=> [Value.string s,Value.int .i64 z,Value.int .i64 4]) (by omega)) (nY s (5+8*i) 4 (by decide) (by omega) (by omega) _) ?_;rintro _ w6 ⟨rfl,x6⟩)|refine aD (d:=some 46) (.int .u32 (bN s (5+8*i) 4:Nat)) rfl (congrArg (fun n=>some (Value.int .u32 n)) (aGe q3)) ?_|refine bT (d:=some 47) (cs:=brE.f (sH s i)) rfl ?_|refine zI (d:=some 48) (cs:=brE.f (sH s i)) rfl (fun b9 w9 x9 a9 hb9=>?_)|refine bY (d:=some 49) (E:=brE) (v:=v4) (l2:= [sH s i]) rfl (ho.ext (by exact fx)) (Ext.size (w:=w) (by exact fx)) rfl rfl (eH a9 rfl) rfl rfl (by simp;omega) (fun v10 w10 o10 c10=>?_)|refine go1 ?_|refine zg λ_ _=>?_|refine zi λ_ _=>?_)
  exact ⟨(i+1,v10),⟨rfl,rfl,congrArg (Value.int .i64) (by simp only;omega),trivial⟩,⟨(Ext.chg (w:=w) (by exact fx) c10).mono (fun b hb=>.inr (ho.base b hb)),by simp only;omega,by simp only;rw [aLj];exact o10⟩,by simp only;omega⟩
 ·have ei:i=n:=by omega
  subst ei
  have hp:=aU4 (s:=s) (by omega) (by omega)
  have hl:(List.range i).map (sH s)=iG s:=by unfold iG;rw [hp.1,hb0]
  rw [hl] at ho
  have hok:∀b∈iG s,BrOk b:=fun b hb=>by
   unfold iG at hb
   obtain ⟨j,_,rfl⟩:=List.mem_map.1 hb
   exact aQs s j
  rw [hp.2]
  repeat' (first|(refine zC (d:=some 52) rfl (aRl _ (SlE.ext (w:=w3) (by exact fx) ho.sl) hok) ?_;rintro _ w4 ⟨z,rfl,x4⟩)|refine zN (p:=aAg (iG s)=0) rfl (fun h=>?_) (fun h=>?_)|refine go1 ?_|refine zg λ_ _=>?_|refine zi λ_ _=>?_)
  ·rw [if_neg h]
   exact aB rfl ⟨.slice none 0 0,_,rfl,SlE.nil _,fun _=>rfl,(fun b hb=>absurd hb (by simp [aH])),by exact fx⟩
  ·rw [if_pos h]
   exact aB rfl ⟨_,_,rfl,SlE.ext x4 ho.sl,fun he=>absurd rfl he,ho.base,by exact fx⟩
def pR (l:List ByteArray):Value:=match eU l with
 |some (a,t)=>.tuple #[.int .i64 (a:Nat),.int .u16 (t:Nat),.int .i64 0]
 |none=>.tuple #[.int .i64 0,.int .u16 0,.int .i64 4]
theorem aKj {v:Value} {l:List ByteArray} (w:World) (hv:SlE iX w v l) (hz:∀z∈l,z.size≤1000000):K.Spec Tryz.prog F.lock_Signed [v] w fun r w'=>r=pR l∧Ext w w':=by
 refine aGw rfl ?_
 unfold vS
 refine oy ?_
 by_cases h1:l.length=1
 ·obtain ⟨z,rfl⟩:∃z,l= [z]:=by
   match l,h1 with
   | [z],_=>exact ⟨z,rfl⟩
  have hzm:=hz z (by simp)
  by_cases h3:z.size=3
  ·have hb0:=gK (s:=z) (i:=0) (by omega)
   have hb8:=z[0].toNat_lt
   obtain ⟨n,hn⟩:∃n:Nat,n=z[0].toNat:=⟨_,rfl⟩
   rw [←hn] at hb0 hb8
   have q1:=eO z 2 1
   by_cases h4:n<3
   ·have e:pR [z]=.tuple #[.int .i64 (n:Nat),.int .u16 (bN z 1 2:Nat),.int .i64 0]:=by
     unfold pR eU
     rw [if_pos ⟨rfl,h3,by show bJ z 0<3;omega⟩]
     show Value.tuple #[.int .i64 (bJ z 0:Nat),_,_]=_
     rw [hb0];rfl
    rw [e]
    repeat' (first|refine bP (d:=some 6) (E:=iX) (l:= [z]) rfl (SlE.ext (w:=w) (by exact fx) hv) ?_|refine aD (d:=some 7) (.bool false) rfl rfl ?_|(refine aQ (d:=some 10) (E:=iX) rfl rfl (n:=0) (l:= [z]) (SlE.ext (w:=w) (by exact fx) hv) rfl (by simp) (fun ad r4=>?_);have r4:Row _ ad [Value.string z]:=r4)|(refine aD (d:=some 13) (.bool false) rfl (by show some (Value.bool (!decide (((z.size:Nat):Int)=3)))=_;rw [dTr (by omega)];rfl) ?_)|(refine aQ (d:=some 17) (E:=iX) rfl rfl (n:=0) (l:= [z]) (SlE.ext (w:=w) (by exact fx) hv) rfl (by simp) (fun ad r5=>?_);have r5:Row _ ad [Value.string z]:=r5)|(refine fL (d:=some 19) (k:=.i64) (n:=0) rfl rfl (by omega) ?_;rw [←hn])|refine aD (d:=some 20) (.bool false) rfl (congrArg (fun b=>some (Value.bool b)) (dFa (by omega))) ?_|refine zg (fun w7 x7=>?_)|refine lI ?_ ?_|(refine aQ (d:=some 23) (E:=iX) rfl rfl (n:=0) (l:= [z]) (SlE.ext (w:=w) (by exact fx) hv) rfl (by simp) (fun ad r6=>?_);have r6:Row _ ad [Value.string z]:=r6)|(refine aQ (d:=some 28) (E:=iX) rfl rfl (n:=0) (l:= [z]) (SlE.ext (w:=w) (by exact fx) hv) rfl (by simp) (fun ad r7=>?_);have r7:Row _ ad [Value.string z]:=r7)|(refine fL (d:=some 25) (k:=.i64) (n:=0) rfl rfl (by omega) ?_;rw [←hn])|refine aD (d:=some 26) (.int .i64 (n:Nat)) rfl (congrArg (fun n=>some (Value.int .i64 n)) (mW (by omega))) ?_|(refine zC (d:=some 30) rfl (nY z 1 2 (by decide) (by omega) (by omega) _) ?_;rintro _ w8 ⟨rfl,x8⟩)|refine aD (d:=some 31) (.int .u16 (bN z 1 2:Nat)) rfl (congrArg (fun n=>some (Value.int .u16 n)) (tI q1)) ?_|refine go1 ?_|refine zg λ_ _=>?_|refine zi λ_ _=>?_)
    all_goals exact aB rfl ⟨rfl,by exact fx⟩
   ·have e:pR [z]=.tuple #[.int .i64 0,.int .u16 0,.int .i64 4]:=by
     unfold pR eU
     rw [if_neg]
     rintro ⟨_,_,h⟩
     have h:bJ z 0<3:=h
     omega
    rw [e]
    repeat' (first|refine bP (d:=some 6) (E:=iX) (l:= [z]) rfl (SlE.ext (w:=w) (by exact fx) hv) ?_|refine aD (d:=some 7) (.bool false) rfl rfl ?_|(refine aQ (d:=some 10) (E:=iX) rfl rfl (n:=0) (l:= [z]) (SlE.ext (w:=w) (by exact fx) hv) rfl (by simp) (fun ad r4=>?_);have r4:Row _ ad [Value.string z]:=r4)|(refine aD (d:=some 13) (.bool false) rfl (by show some (Value.bool (!decide (((z.size:Nat):Int)=3)))=_;rw [dTr (by omega)];rfl) ?_)|(refine aQ (d:=some 17) (E:=iX) rfl rfl (n:=0) (l:= [z]) (SlE.ext (w:=w) (by exact fx) hv) rfl (by simp) (fun ad r5=>?_);have r5:Row _ ad [Value.string z]:=r5)|(refine fL (d:=some 19) (k:=.i64) (n:=0) rfl rfl (by omega) ?_;rw [←hn])|refine aD (d:=some 20) (.bool true) rfl (congrArg (fun b=>some (Value.bool b)) (dTr (by omega))) ?_|refine go1 ?_|refine zg λ_ _=>?_|refine zi λ_ _=>?_)
    exact aB rfl ⟨rfl,by exact fx⟩
  ·have e:pR [z]=.tuple #[.int .i64 0,.int .u16 0,.int .i64 4]:=by
    unfold pR eU
    rw [if_neg]
    rintro ⟨_,h,_⟩
    exact h3 h
   rw [e]
   repeat' (first|refine bP (d:=some 6) (E:=iX) (l:= [z]) rfl (SlE.ext (w:=w) (by exact fx) hv) ?_|refine aD (d:=some 7) (.bool false) rfl rfl ?_|(refine aQ (d:=some 10) (E:=iX) rfl rfl (n:=0) (l:= [z]) (SlE.ext (w:=w) (by exact fx) hv) rfl (by simp) (fun ad r4=>?_);have r4:Row _ ad [Value.string z]:=r4)|(refine aD (d:=some 13) (.bool true) rfl (by show some (Value.bool (!decide (((z.size:Nat):Int)=3)))=_;rw [dFa (by omega)];rfl) ?_)|refine go1 ?_|refine zg λ_ _=>?_|refine zi λ_ _=>?_)
   exact aB rfl ⟨rfl,by exact fx⟩
 ·have e:pR l=.tuple #[.int .i64 0,.int .u16 0,.int .i64 4]:=by
   unfold pR eU
   rw [if_neg]
   rintro ⟨h,_⟩
   exact h1 h
  rw [e]
  repeat' (first|refine bP (d:=some 6) (E:=iX) (l:=l) rfl (SlE.ext (w:=w) (by exact fx) hv) ?_|(refine aD (d:=some 7) (.bool true) rfl (by show some (Value.bool (!decide (((l.length:Nat):Int)=1)))=_;rw [dFa (by omega)];rfl) ?_)|refine go1 ?_|refine zg λ_ _=>?_|refine zi λ_ _=>?_)
  exact aB rfl ⟨rfl,by exact fx⟩
end
end Go.Proofs.YtgloknkcfchnlabGreatDoor
namespace Go.K
section
open Go
variable {l:List Ent}
end
end Go.K
namespace Go.Proofs.YtgloknkcfchnlabGreatDoor
section
open Go Go.K
attribute [local irreducible] aG aK aU KOp.wp K.Spec u32 leS vnS str aN cV bH idT aV aJ aO
end
end Go.Proofs.YtgloknkcfchnlabGreatDoor
namespace Go.K
section
open Go Go.Proofs.YtgloknkcfchnlabGreatDoor
section
variable {l:List Ent} {t:Tx}
end
end
section
open Go Go.Proofs.YtgloknkcfchnlabGreatDoor
end
end Go.K
