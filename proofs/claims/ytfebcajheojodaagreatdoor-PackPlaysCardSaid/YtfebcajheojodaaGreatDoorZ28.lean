/- Plain: transactions over coins, made of small numbers. What  -/
import Derived.Test.YtfebcajheojodaaGreatDoorRows
import Derived.Test.YtfebcajheojodaaGreatDoorChecked
import Derived.ProofKit
import Derived.ShutString
import Derived.ChangeOld
import Derived.Below
import Derived.WalkKit
import Derived.LaidEql
import Derived.Lib.IfaceEq
import Derived.Stop.Asserts
import Derived.RowKitTokens
import Derived.Test.YtfebcajheojodaaGreatDoorZ27
set_option linter.unusedVariables false
set_option linter.unusedSimpArgs false
namespace Go.K
section
open Go Go.Proofs.YtfebcajheojodaaGreatDoor
structure PSm where
 spends:List UInt8
 tag:UInt8
 fee:Int
 pays:UInt8
 mark:UInt8
 final:Bool
 wait:UInt8
instance:Inhabited PSm:=⟨⟨[],0,0,0,0,false,0⟩⟩
def jC (z:PSm) (fv:Value):List Value:= [fv,u8V z.tag,.int .u16 z.fee,u8V z.pays,u8V z.mark,.bool z.final,u8V z.wait]
def aAw:R PSm where
 k:=7
 pos:=by decide
 ag:=true
 rel:=fun M w cs z=>∃fv,cs=jC z fv∧SlR u8R M w fv z.spends∧0≤z.fee∧z.fee≤65535
 len:=fun ⟨_,h,_⟩=>by rw [h];rfl
 one:=fun ⟨fv,h,hs,_⟩ v hv=>by
  obtain ⟨b,c,rfl⟩:=hs.form
  subst h;simp [jC] at hv;rcases hv with rfl|rfl|rfl|rfl|rfl|rfl|rfl<;>rfl
 step:=fun ⟨fv,h,hs,h2⟩ c hL hM=>⟨fv,h,hs.step c hL hM,h2⟩
def aVn:R Int where
 k:=1
 pos:=by decide
 ag:=false
 rel:=fun _ _ cs n=>cs= [.int .u16 n]∧0≤n∧n≤65535
 len:=fun ⟨h,_⟩=>by rw [h];rfl
 one:=fun ⟨h,_⟩ v hv=>by subst h;simp at hv;subst hv;rfl
 step:=fun h _ _ _=>h
def bMq:ByteArray:=⟨#[1,1,0,0,0,0,0,0,0]⟩
def aZr (n:Int):Cn:=⟨10*n,bMq,1⟩
def iH (vals:List Int):Nat→List En
 |0=> []
 |n+1=>pS (iH vals n) ⟨idN (300+n),0⟩ (aZr (vals.getD n 0))
def aFm (V:List En) (s:UInt8):Option En:=if s.toNat<250∧0<V.length then V[s.toNat%V.length]? else none
def ptP (V:List En) (s:UInt8):Pt:=match aFm V s with
 |some e=>e.1
 |none=>⟨idN s.toNat,0⟩
def xY (V:List En) (s:UInt8):Int:=match aFm V s with
 |some e=>e.2.v
 |none=>0
def aM1 (z:PSm):Int:=if 0<z.wait.toNat then ((z.wait.toNat%8:Nat):Int) else if z.final then 4294967294 else 4294967293
def aUh (z:PSm):ByteArray:=str [0,UInt8.ofNat (z.tag.toNat%3),0]
def inP (V:List En) (z:PSm) (s:UInt8):TIn:=⟨ptP V s,aM1 z, [aUh z]⟩
def aM6 (z:PSm):ByteArray:=((⟨#[1,1,0]⟩:ByteArray)++str [UInt8.ofNat (z.pays.toNat / 64)])++(⟨#[0,0,0,0,0]⟩:ByteArray)
def aJ7 (left:Int) (k:Nat):Int:=if left.tdiv (k:Nat)<0 then 0 else left.tdiv (k:Nat)
def vX (s:ByteArray):Nat→Int→List TOut
 |0,_=> []
 |k+1,left=>⟨aJ7 left (k+1),s⟩::vX s k (left - aJ7 left (k+1))
def aVi (V:List En) (z:PSm):Int:=((z.spends.take 4).map (xY V)).sum
def bM (V:List En) (z:PSm):Tx:=⟨2,(z.spends.take 4).map (inP V z),vX (aM6 z) (1+z.pays.toNat%3) (aVi V z - z.fee),((z.mark.toNat%3:Nat):Int)⟩
theorem aR6 (s:ByteArray):∀(k:Nat) (left:Int),(vX s k left).length=k
 |0,_=>rfl
 |k+1,left=>by rw [vX,List.length_cons,aR6 s k]
theorem sJ (V:List En) (z:PSm):(bM V z).ins.length≤4:=by
 show ((z.spends.take 4).map (inP V z)).length≤4
 rw [List.length_map,List.length_take];omega
theorem aG5 (V:List En) (z:PSm):1≤(bM V z).outs.length∧(bM V z).outs.length≤3:=by
 show 1≤(vX _ _ _).length∧(vX _ _ _).length≤3
 rw [aR6];omega
theorem xL (V:List En) (z:PSm):(bM V z).Sm:=by
 refine ⟨by have:=sJ V z;omega,by have:=aG5 V z;omega,fun x hx=>?_⟩
 obtain ⟨s, -,rfl⟩:=List.mem_map.1 (show x∈(z.spends.take 4).map (inP V z) from hx)
 show [aUh z].length≤1000
 simp
theorem aXp {V:List En} {s:UInt8} {e:En} (h:aFm V s=some e):e∈V:=by
 unfold aFm at h
 split at h
 ·exact List.mem_of_getElem? h
 ·cases h
theorem aVy {V:List En} (hV:∀e∈V,dV e.1.i) (s:UInt8):dV (ptP V s).i:=by
 unfold ptP
 cases h:aFm V s with
 |some e=>exact hV e (aXp h)
 |none=>exact ⟨by show (0:Int)≤0;omega,by show (0:Int)<4294967296;omega⟩
theorem aSn {V:List En} (hV:∀e∈V,dV e.1.i) (z:PSm):∀p∈bK (bM V z),dV p.i:=by
 intro p hp
 obtain ⟨x,hx,rfl⟩:=List.mem_map.1 hp
 obtain ⟨s, -,rfl⟩:=List.mem_map.1 (show x∈(z.spends.take 4).map (inP V z) from hx)
 exact aVy hV s
theorem bKm {V:List En} {B:Int} (hB:0≤B) (hV:∀e∈V,0≤e.2.v∧e.2.v≤B) (s:UInt8):0≤xY V s∧xY V s≤B:=by
 unfold xY
 cases h:aFm V s with
 |some e=>exact hV e (aXp h)
 |none=>exact ⟨Int.le_refl _,hB⟩
theorem aCq {V:List En} {B:Int} (hB:0≤B) (hV:∀e∈V,0≤e.2.v∧e.2.v≤B):∀(l:List UInt8),0≤(l.map (xY V)).sum∧(l.map (xY V)).sum≤B*l.length
 | []=>by simp
 |s::l=>by
  have h1:=bKm hB hV s
  have h2:=aCq hB hV l
  rw [List.map_cons,List.sum_cons,List.length_cons]
  have e:B*((l.length+1:Nat):Int)=B*(l.length:Nat)+B:=by push_cast;rw [Int.mul_add,Int.mul_one]
  rw [e];omega
theorem bKu {V:List En} {B:Int} (hB:0≤B) (hV:∀e∈V,0≤e.2.v∧e.2.v≤B) (z:PSm):0≤aVi V z∧aVi V z≤4*B:=by
 have h:=aCq hB hV (z.spends.take 4)
 have h2:(z.spends.take 4).length≤4:=by rw [List.length_take];omega
 refine ⟨h.1,Int.le_trans h.2 ?_⟩
 rw [Int.mul_comm 4 B]
 exact Int.mul_le_mul_of_nonneg_left (by omega) hB
theorem aPy {left:Int} {k:Nat} (hk:0<k) (hl: -100000≤left) {C:Int} (hC:left≤C) (h0:0≤C):0≤aJ7 left k∧aJ7 left k≤C∧ -100000≤left - aJ7 left k∧left - aJ7 left k≤C:=by
 unfold aJ7
 by_cases hn:0≤left
 ·obtain ⟨n,rfl⟩:=Int.eq_ofNat_of_zero_le hn
  have e:((n:Nat):Int).tdiv (k:Nat)=((n / k:Nat):Int):=by
   rw [Int.tdiv_eq_ediv_of_nonneg (by omega)];rfl
  have:=Nat.div_le_self n k
  rw [e]
  generalize n / k=q at this ⊢
  rw [if_neg (by omega)];omega
 ·have e:left.tdiv (k:Nat)≤0:=by
   obtain ⟨n,hn2⟩:=Int.eq_ofNat_of_zero_le (show 0≤ -left by omega)
   have:left= -((n:Nat):Int):=by omega
   rw [this,Int.neg_tdiv,Int.tdiv_eq_ediv_of_nonneg (by omega)]
   have:(0:Int)≤((n:Nat):Int) / ((k:Nat):Int):=Int.ediv_nonneg (by omega) (by omega)
   omega
  split<;>omega
structure CoinsOk (V:List En) (n:Nat):Prop where
 srt:Srt V
 len:V.length≤n
 each:∀e∈V,e.1.s.size=32∧e.1.i=0∧0≤e.2.v∧e.2.v≤655350∧e.2.s=bMq∧e.2.h=1
theorem bBq {V:List En} {c:Int} (h:∀e∈V,e.2.v≤c):tot V≤c*(V.length:Nat):=by
 induction V with
 |nil=>simp
 |cons e V ih=>
  have h1:=ih (fun d hd=>h d (by simp [hd]))
  have h2:=h e (by simp)
  rw [aI0,List.length_cons]
  have e1:c*((V.length+1:Nat):Int)=c*(V.length:Nat)+c:=by push_cast;rw [Int.mul_add,Int.mul_one]
  rw [e1];omega
theorem CoinsOk.tot {V:List En} {n:Nat} (h:CoinsOk V n) (hn:n≤1000):0≤tot V∧tot V≤655350*(n:Nat):=by
 have h1:=bBq (V:=V) (c:=655350) (fun e he=>(h.each e he).2.2.2.1)
 have h2:=h.len
 exact ⟨Mon.pos fun e he=>(h.each e he).2.2.1,by omega⟩
theorem CoinsOk.mon {V:List En} {n:Nat} (h:CoinsOk V n) (hn:n≤1000):Mon V:=⟨fun e he=>(h.each e he).2.2.1,by have:=(h.tot hn).2;omega⟩
theorem CoinsOk.nodup {V:List En} {n:Nat} (h:CoinsOk V n):(V.map (·.1)).Nodup:=aR7 h.srt
theorem yW {vals:List Int} (hv:∀a∈vals,0≤a∧a≤65535):∀n,CoinsOk (iH vals n) n
 |0=>⟨List.Pairwise.nil,Nat.le_refl _,fun e he=>by cases he⟩
 |n+1=>by
  have h:=yW hv n
  obtain ⟨h1,h2,h3⟩:=bL5 (List.Perm.refl (iH vals n)) h.srt ⟨idN (300+n),0⟩ (aZr (vals.getD n 0))
  have hd:0≤vals.getD n 0∧vals.getD n 0≤65535:=by
   rw [List.getD_eq_getElem?_getD]
   cases hg:vals[n]? with
   |none=>exact ⟨Int.le_refl _,by decide⟩
   |some a=>exact hv a (List.mem_of_getElem? hg)
  refine ⟨h2,nTr h3 (by have:=h.len;omega),fun e he=>?_⟩
  have he':=h1.symm.subset he
  unfold wK at he'
  have old:=h.each e
  split at he'
  ·rcases List.mem_append.1 he' with h5|h5
   ·exact old h5
   ·simp only [List.mem_singleton] at h5
    subst h5
    exact ⟨bJq _,rfl,by show 0≤10*_;omega,by show 10*_≤_;omega,rfl,rfl⟩
  ·exact old he'
theorem bHs {V:List En} {n:Nat} (h:CoinsOk V n) (hn:n≤1000) {i:Nat} (hi:i<V.length):gJ (V.take i) V[i].1 V[i].2=0∧wK (V.take i) V[i].1 V[i].2=V.take (i+1):=by
 obtain ⟨e1,e2,e3,e4,e5,e6⟩:=h.each _ (gMe hi)
 have hf:eG V[i].1 V[i].2=true:=by
  unfold eG
  rw [e1,e6,(bG _).2 ⟨e3,by omega⟩];rfl
 have hnone:aS (V.take i) V[i].1=none:=by
  cases hg:aS (V.take i) V[i].1 with
  |none=>rfl
  |some c=>
   exfalso
   have hm:=tV hg
   obtain ⟨j,hj,e⟩:=List.getElem_of_mem hm
   rw [List.length_take] at hj
   rw [List.getElem_take] at e
   have hd:=List.pairwise_iff_getElem.1 h.nodup j i (by simp;omega) (by simpa using hi) (by omega)
   simp only [List.getElem_map] at hd
   exact hd (by rw [e])
 have ht:=qU (h.mon hn) (i+1)
 have ht0:=qU (h.mon hn) i
 have he:=aYb hi
 have hT:=(h.mon hn).2
 have hz:gJ (V.take i) V[i].1 V[i].2=0:=by
  unfold gJ
  rw [hf,hnone,if_pos rfl,if_neg (by simp),if_pos ((bG _).2 (by omega))]
 refine ⟨hz,?_⟩
 unfold wK
 rw [if_pos hz,List.take_succ_eq_append_getElem hi]
end
end Go.K
namespace Go.Proofs.YtfebcajheojodaaGreatDoor
section
open Go Go.K Go.ChangeShapes Go.WideShapes Go.ChangeAt Go.RowKit
set_option maxRecDepth 100000
theorem own:ownKnob Tryz.prog.godebug=none:=by kernel_rfl
theorem laidOut:laidOutB Tryz.prog=true:=by kernel_rfl
theorem bMp:Tryz.prog.cellsOf 3=1:=by kernel_rfl
theorem bOv:Tryz.prog.cellsOf 5=1:=by kernel_rfl
theorem bH6:Tryz.prog.cellsOf 22=1:=by kernel_rfl
theorem aX2:Tryz.prog.cellsOf 9=1:=by kernel_rfl
theorem bPe:Tryz.prog.cellsOf 30=1:=by kernel_rfl
theorem bIj:Tryz.prog.cellsOf 4=1:=by kernel_rfl
theorem bDe:Tryz.prog.cellsOf 83=2:=by kernel_rfl
theorem bO8:Tryz.prog.cellsOf 33=1:=by kernel_rfl
theorem yA {W:World} {c:List Value} (h:Reads Tryz.prog W 5 c):∃b:UInt8,c= [u8V b]:=by
 obtain ⟨n,e,h1,h2⟩:=aDu Tryz.underlying5 h
 have h1:0≤n:=h1
 have h2:n≤255:=h2
 refine ⟨UInt8.ofNat n.toNat,?_⟩
 have:(UInt8.ofNat n.toNat).toNat=n.toNat:=by rw [UInt8.toNat_ofNat'];omega
 unfold u8V
 rw [e,this]
 congr 2;omega
theorem aK3 {W:World} {c:List Value} (h:Reads Tryz.prog W 3 c):∃n:Int,c= [.int .i64 n]∧lJ n:=by
 obtain ⟨n,e,h1,h2⟩:=aDu Tryz.underlying3 h
 have h1: -9223372036854775808≤n:=h1
 have h2:n≤9223372036854775807:=h2
 exact ⟨n,e,by unfold lJ;omega⟩
theorem aD4 {W:World} {c:List Value} (h:Reads Tryz.prog W 22 c):∃n:Int,c= [.int .u32 n]∧dV n:=by
 obtain ⟨n,e,h1,h2⟩:=aDu Tryz.underlying22 h
 have h1:0≤n:=h1
 have h2:n≤4294967295:=h2
 exact ⟨n,e,by unfold dV;omega⟩
theorem aYn {W:World} {c:List Value} (h:Reads Tryz.prog W 83 c):∃p:Pt,c=p.cs∧dV p.i:=by
 obtain ⟨h1,h2⟩:=kN Tryz.underlying83 h
 have l:c.length=2:=h1.trans bDe
 match c,l with
 | [c0,c1],_=>
  have g0:=h2 _ (List.mem_of_getElem? (i:=0) rfl)
  have g1:=h2 _ (List.mem_of_getElem? (i:=1) rfl)
  obtain ⟨s,e0,_⟩:=zY Tryz.underlying9 g0
  obtain ⟨i,e1,hi⟩:=aD4 g1
  simp only [aX2,bH6,List.drop_zero,List.drop_succ_cons,List.take_succ_cons,List.take_zero,List.cons.injEq,and_true] at e0 e1
  exact ⟨⟨s,i⟩,by rw [e0,e1];rfl,hi⟩
theorem aKv {W:World} {c:List Value} (h:Reads Tryz.prog W 30 c):∃n:Int,c= [.int .u16 n]∧0≤n∧n≤65535:=by
 obtain ⟨n,e,h1,h2⟩:=aDu Tryz.underlying30 h
 exact ⟨n,e,h1,h2⟩
theorem aR2 {W:World} {c:List Value} (h:Reads Tryz.prog W 35 c):∃z:PSm,aAw.rel [] W c z:=by
 obtain ⟨h1,h2⟩:=kN Tryz.underlying35 h
 have l:c.length=7:=h1.trans (by kernel_rfl)
 match c,l with
 | [c0,c1,c2,c3,c4,c5,c6],_=>
  have g0:=h2 _ (List.mem_of_getElem? (i:=0) rfl)
  have g1:=h2 _ (List.mem_of_getElem? (i:=1) rfl)
  have g2:=h2 _ (List.mem_of_getElem? (i:=2) rfl)
  have g3:=h2 _ (List.mem_of_getElem? (i:=3) rfl)
  have g4:=h2 _ (List.mem_of_getElem? (i:=4) rfl)
  have g5:=h2 _ (List.mem_of_getElem? (i:=5) rfl)
  have g6:=h2 _ (List.mem_of_getElem? (i:=6) rfl)
  simp only [bO8,List.drop_zero,List.drop_succ_cons,List.take_succ_cons,List.take_zero] at g0
  obtain ⟨frm,hf,hfl⟩:=sI u8R Tryz.underlying33 (by kernel_rfl) (fun c hc=>by
   obtain ⟨b,e⟩:=yA hc
   exact ⟨b,by subst e;rfl⟩) g0
  obtain ⟨b1,e1⟩:=yA g1
  obtain ⟨f,e2,hf1,hf2⟩:=aKv g2
  obtain ⟨b3,e3⟩:=yA g3
  obtain ⟨b4,e4⟩:=yA g4
  obtain ⟨o,e5⟩:=aOp Tryz.underlying4 g5
  obtain ⟨b6,e6⟩:=yA g6
  simp only [bOv,bPe,bIj,List.drop_zero,List.drop_succ_cons,List.take_succ_cons,List.take_zero,List.cons.injEq,and_true] at e1 e2 e3 e4 e5 e6
  exact ⟨⟨frm,b1,f,b3,b4,o,b6⟩,c0,by rw [e1,e2,e3,e4,e5,e6];rfl,hf,hf1,hf2⟩
theorem bB0 {W:World} {v:Value} (h:Reads Tryz.prog W 31 [v]):∃l,SlR aVn [] W v l∧l.length≤maxLen:=
 sI aVn Tryz.underlying31 (by kernel_rfl) (fun c hc=>by
  obtain ⟨n,e,h1,h2⟩:=aKv hc
  exact ⟨n,by subst e;exact ⟨rfl,h1,h2⟩⟩) h
theorem bL3 {M:List Nat} {w:World} {v:Value} {l:List Int} (h:SlR aVn M w v l):∀a∈l,0≤a∧a≤65535:=by
 obtain ⟨css,h1,h2,h3⟩:=h
 intro a ha
 obtain ⟨i,hi,rfl⟩:=List.getElem_of_mem ha
 exact (h2.get i (by rw [h2.length];exact hi) hi).2
end
section
open Go Go.RowKit Go.Extern.Stop Go.Stop Go.Extern
theorem bIl (v:Value) (w:World):(Extern.ReflectliteType.typeOf #[.iface 53 v]).run Tryz.prog w=.ok (.iface 190 (.agg #[.pointer (some ⟨4,53,none⟩)])) w:=by kernel_rfl
theorem aGk (v:Value) (w:World):(Go.method 437 190 v "Comparable").run Tryz.prog w=.ok (267,v) w:=by kernel_rfl
theorem aVl (w:World):((Extern.ReflectliteType.method fun t=>do Extern.Rtype.noPackHeld "Comparable" t;Functor.map (fun a=>Value.bool a.comparable) (typeInfo t)) #[.agg #[.pointer (some ⟨4,53,none⟩)]]).run Tryz.prog w=.ok (.bool true) w:=by kernel_rfl
theorem bF9 (v:Value) (xT:TypeId) (w:World):(Instr.typeAssert (.iface 53 v) xT 195 true).run Tryz.prog w=.ok (.tuple #[.nilIface,.bool false]) w:=run_typeAssert_lacksB Tryz.underlying195 (by kernel_rfl) (by kernel_rfl) v xT w
theorem bBa (v:Value) (xT:TypeId) (w:World):(Instr.typeAssert (.iface 53 v) xT 197 true).run Tryz.prog w=.ok (.tuple #[.nilIface,.bool false]) w:=run_typeAssert_lacksB Tryz.underlying197 (by kernel_rfl) (by kernel_rfl) v xT w
set_option maxRecDepth 20000 in
theorem bKg (a:Int) (w:World):
  Calls Tryz.prog 18 #[.iface 53 (.int .i64 a),.iface 53 (.int .i64 a)] w fun e w'=>e=.returned (.bool true)∧w'=w:=by
 have h8:=@run_callFunc_extern Tryz.prog 52 _ Extern.ReflectliteType.typeOf Tryz.func52 (by kernel_rfl) (by kernel_rfl) (by kernel_rfl) (by kernel_rfl)
 have h32:=@run_callFunc_extern Tryz.prog 267 _ (Extern.ReflectliteType.method fun t=>do Extern.Rtype.noPackHeld "Comparable" t;pure (.bool (←typeInfo t).comparable)) Tryz.func267 (by kernel_rfl) (by kernel_rfl) (by kernel_rfl) (by kernel_rfl)
 have tT:=bIl
 have cT:=aVl
 have mR:=aGk
 have heq:=Go.Lib.run_eql_iface_int (P:=Tryz.prog) w (t:=41) (tx:=53) (k:=.i64) (q:=.i64) a a Tryz.underlying41 (by kernel_rfl) Tryz.underlying53
 go_enter Tryz.func18,Tryz.ntmps18
 go_wp2
 refine wp_loop_rounds 1 ?_
 rw [rounds_succ]
 go_wp2
 go_ret
 exact ⟨rfl,rfl⟩
theorem aOz (a:Int) (w:World):K.Spec Tryz.prog 18 [.iface 53 (.int .i64 a),.iface 53 (.int .i64 a)] w fun v w'=>v=.bool true∧w'=w:=
 Calls.mono (bKg a w) fun _ _ h=>⟨_,h.1,rfl,h.2⟩
end
section
open Go Go.RowKit Go.Extern.Stop Go.Stop Go.Extern
abbrev hB:Nat:=4
theorem aF3 (t:Addr) (w:World):(ReflectliteValue.unpack (.iface 121 (.pointer (some t)))).run Tryz.prog w=.ok (.agg #[.pointer (some ⟨4,121,none⟩),.pointer (some ⟨w.heap.size,0,none⟩),.int .u64 150]) (w.alloc (.cells #[.pointer (some t)] 121)):=by kernel_rfl
theorem aQf (a:Addr) (w:World):(ReflectliteValue.methodAny (ReflectliteValue.valueError "reflectlite.Value.Type" 0) (fun t _ _ _=>ReflectliteType.toType t) #[.agg #[.pointer (some ⟨4,121,none⟩),.pointer (some a),.int .u64 150]]).run Tryz.prog w=.ok (.iface 190 (.agg #[.pointer (some ⟨4,121,none⟩)])) w:=by kernel_rfl
theorem aIq (h:Value) (w:World):(Go.method 437 190 (.agg #[h]) "Kind").run Tryz.prog w=.ok (254,h) w:=by kernel_rfl
theorem aHb (h:Value) (w:World):(Go.method 437 190 (.agg #[h]) "Elem").run Tryz.prog w=.ok (268,.agg #[h]) w:=by kernel_rfl
theorem lN (h:Value) (w:World):(Go.method 437 190 (.agg #[h]) "Implements").run Tryz.prog w=.ok (269,.agg #[h]) w:=by kernel_rfl
theorem lU (h:Value) (w:World):(Go.method 437 190 (.agg #[h]) "AssignableTo").run Tryz.prog w=.ok (266,.agg #[h]) w:=by kernel_rfl
theorem aQs (w:World):((ReflectliteType.abiMethod fun t=>Functor.map (fun a:Nat=>Value.int IntKind.u8 (a:Int)) (Rtype.kind t)) #[.pointer (some ⟨4,121,none⟩)]).run Tryz.prog w=.ok (.int .u8 22) w:=by kernel_rfl
theorem aT1 (w:World):((ReflectliteType.abiMethod fun t=>Functor.map (fun a:Nat=>Value.int IntKind.u8 (a:Int)) (Rtype.kind t)) #[.pointer (some ⟨4,53,none⟩)]).run Tryz.prog w=.ok (.int .u8 2) w:=by kernel_rfl
theorem aQi (w:World):(ReflectliteType.method ReflectliteType.elem #[.agg #[.pointer (some ⟨4,121,none⟩)]]).run Tryz.prog w=.ok (.iface 190 (.agg #[.pointer (some ⟨4,53,none⟩)])) w:=by kernel_rfl
theorem aVm (w:World):(ReflectliteType.relation "Implements" ReflectliteType.implements_ #[.agg #[.pointer (some ⟨4,53,none⟩)],.iface 190 (.agg #[.pointer (some ⟨4,41,none⟩)])]).run Tryz.prog w=.ok (.bool true) w:=by kernel_rfl
theorem aD8 (v:Value) (w:World):(ReflectliteType.typeOf #[.iface 53 v]).run Tryz.prog w=.ok (.iface 190 (.agg #[.pointer (some ⟨4,53,none⟩)])) w:=by kernel_rfl
theorem aK9 (v:Value) (w:World):(ReflectliteType.typeOf #[.iface 122 v]).run Tryz.prog w=.ok (.iface 190 (.agg #[.pointer (some ⟨4,122,none⟩)])) w:=by kernel_rfl
theorem aUc (w:World):(ReflectliteType.relation "AssignableTo" ReflectliteType.assignableTo #[.agg #[.pointer (some ⟨4,53,none⟩)],.iface 190 (.agg #[.pointer (some ⟨4,53,none⟩)])]).run Tryz.prog w=.ok (.bool true) w:=by kernel_rfl
theorem bCt (w:World):(ReflectliteType.relation "AssignableTo" ReflectliteType.assignableTo #[.agg #[.pointer (some ⟨4,122,none⟩)],.iface 190 (.agg #[.pointer (some ⟨4,53,none⟩)])]).run Tryz.prog w=.ok (.bool false) w:=by kernel_rfl
theorem aKt (n:Int) (w:World):(ReflectliteValue.unpack (.iface 53 (.int .i64 n))).run Tryz.prog w=.ok (.agg #[.pointer (some ⟨4,53,none⟩),.pointer (some ⟨w.heap.size,0,none⟩),.int .u64 130]) (w.alloc (.cells #[.int .i64 n] 53)):=by kernel_rfl
theorem bKs (z:Sem Value) (f:TypeId→Addr→Nat→Nat→Sem Value) (v:Value):ReflectliteValue.method z f #[v]=(do match ←ReflectliteValue.parts v with|none=>z|some (t,a,fl)=>f t a fl (fl%32)):=rfl
theorem aS8 (a:Addr) (w:World):(ReflectliteValue.parts (.agg #[.pointer (some ⟨4,121,none⟩),.pointer (some a),.int .u64 150])).run Tryz.prog w=.ok (some (121,a,150)) w:=by kernel_rfl
theorem aJ9 (a p:Addr) (W:World) (ha:W.cell? a=some (.pointer (some p))):
  (ReflectliteValue.method (ReflectliteValue.valueError "reflectlite.Value.IsNil" 0) ReflectliteValue.isNil #[.agg #[.pointer (some ⟨4,121,none⟩),.pointer (some a),.int .u64 150]]).run Tryz.prog W=.ok (.bool false) W:=by
 rw [bKs]
 simp only [Sem.run_bind,aS8,Result.andThen]
 simp [ReflectliteValue.isNil,loadVar,isAgg,underlying,Tryz.underlying121,ha,Result.andThen]
end
section
open Go Go.RowKit Go.Extern.Stop Go.Stop Go.Extern
theorem bBp (w:World):(Rtype.elem? 121).run Tryz.prog w=.ok (some 53) w:=by kernel_rfl
theorem bO1 (p:Addr) (w:World):(ReflectliteValue.mk 53 p ReflectliteValue.flagAddr).run Tryz.prog w=.ok (.agg #[.pointer (some ⟨4,53,none⟩),.pointer (some p),.int .u64 386]) w:=by kernel_rfl
theorem aKh (a p:Addr) (W:World) (ha:W.cell? a=some (.pointer (some p))):
  (ReflectliteValue.method (ReflectliteValue.valueError "reflectlite.Value.Elem" 0) ReflectliteValue.elem #[.agg #[.pointer (some ⟨4,121,none⟩),.pointer (some a),.int .u64 150]]).run Tryz.prog W
   =.ok (.agg #[.pointer (some ⟨4,53,none⟩),.pointer (some p),.int .u64 386]) W:=by
 rw [bKs]
 simp only [Sem.run_bind,aS8,Result.andThen]
 simp [ReflectliteValue.elem,loadVar,isAgg,underlying,Tryz.underlying121,ha,Result.andThen,bBp,bO1]
theorem bOm (v x:Value):ReflectliteValue.set #[v,x]=(do
  let (some (dst,a,fl),some (src,b,_)):=(←ReflectliteValue.parts v,←ReflectliteValue.parts x)
   |unsupported (.noEntry "extern/(internal/reflectlite.Value).Set.zeroValue")
  if fl / ReflectliteValue.flagAddr%2==0 then unsupported (.noEntry "extern/(internal/reflectlite.Value).Set.unaddressable")
  let val ←loadVar src b
  if ←Rtype.directlyAssignable dst src then storeVar dst a val
  else if ←Rtype.implements dst src then
   if (←Rtype.kind src)==20 then
    match val with
    |.nilIface=>unsupported (.noEntry "extern/reflectlite: a nil value of one interface type handed on as a value of another")
    |_=>storeVar dst a val
   else storeVar dst a (.iface src val)
  else panicString ("reflectlite.Set: value of type " ++(←Rtype.spelt src)++ " is not assignable to type " ++(←Rtype.spelt dst))
  pure (.tuple #[])):=rfl
theorem bGd (a:Addr) (w:World):(ReflectliteValue.parts (.agg #[.pointer (some ⟨4,53,none⟩),.pointer (some a),.int .u64 386])).run Tryz.prog w=.ok (some (53,a,386)) w:=by kernel_rfl
theorem bIm (a:Addr) (w:World):(ReflectliteValue.parts (.agg #[.pointer (some ⟨4,53,none⟩),.pointer (some a),.int .u64 130])).run Tryz.prog w=.ok (some (53,a,130)) w:=by kernel_rfl
theorem bE7 (w:World):(Rtype.directlyAssignable 53 53).run Tryz.prog w=.ok true w:=by kernel_rfl
theorem bBy (ta b:Addr) (n:Int) (old:Value) (W:World) (hb:W.cell? b=some (.int .i64 n)) (ht:W.cell? ta=some old) (hf:W.frozen? ta=false):
  (ReflectliteValue.set #[.agg #[.pointer (some ⟨4,53,none⟩),.pointer (some ta),.int .u64 386],.agg #[.pointer (some ⟨4,53,none⟩),.pointer (some b),.int .u64 130]]).run Tryz.prog W
   =.ok (.tuple #[]) (W.setCell ta (.int .i64 n)):=by
 rw [bOm]
 simp only [Sem.run_bind,bGd,bIm,Result.andThen]
 simp [ReflectliteValue.flagAddr,loadVar,isAgg,underlying,Tryz.underlying53,hb,Result.andThen,bE7,storeVar,Value.cells,storeCells,Addr.add]
 rw [run_store Tryz.prog W ta _ _ (by rfl)]
 simp [ht,hf]
def pV (w:World) (t:Addr):World:=(w.alloc (.cells #[.pointer (some t)] 121)).alloc (.cells #[.pointer (some ⟨4,121,none⟩),.pointer (some ⟨w.heap.size,0,none⟩),.int .u64 150] 182)
def aBm (w:World) (t:Addr):World:=(pV w t).alloc (.cells #[.pointer (some ⟨4,121,none⟩),.pointer (some ⟨w.heap.size,0,none⟩),.int .u64 150] 182)
set_option maxHeartbeats 4000000 in
theorem bK3 (n:Int) (t:Addr) (old:Value) (w:World) (hg:w.cell? ⟨0,0,none⟩=some (.iface 190 (.agg #[.pointer (some ⟨4,41,none⟩)]))) (ht0:w.cell? t=some old) (hf0:w.frozen? t=false):
  Calls Tryz.prog 49 #[.iface 53 (.int .i64 n),.iface 121 (.pointer (some t))] w fun ev w'=>ev=.returned (.bool true)∧Go.K.Chg [t.block] w w'∧w'.cell? t=some (.int .i64 n):=by
 have h6:=@run_callFunc_extern Tryz.prog 104 _ (fun args=>ReflectliteValue.unpack (args.getD 0 (.tuple #[]))) Tryz.func104 (by kernel_rfl) (by kernel_rfl) (by kernel_rfl) (by kernel_rfl)
 have h7:=@run_callFunc_extern Tryz.prog 105 _ (ReflectliteValue.methodAny (ReflectliteValue.valueError "reflectlite.Value.Type" 0) (fun t _ _ _=>ReflectliteType.toType t)) Tryz.func105 (by kernel_rfl) (by kernel_rfl) (by kernel_rfl) (by kernel_rfl)
 have h8:=@run_callFunc_extern Tryz.prog 106 _ (ReflectliteValue.method (ReflectliteValue.valueError "reflectlite.Value.IsNil" 0) ReflectliteValue.isNil) Tryz.func106 (by kernel_rfl) (by kernel_rfl) (by kernel_rfl) (by kernel_rfl)
 have h27:=@run_callFunc_extern Tryz.prog 254 _ (ReflectliteType.abiMethod fun t=>do pure (.int .u8 (←Rtype.kind t))) Tryz.func254 (by kernel_rfl) (by kernel_rfl) (by kernel_rfl) (by kernel_rfl)
 have h37:=@run_callFunc_extern Tryz.prog 268 _ (ReflectliteType.method ReflectliteType.elem) Tryz.func268 (by kernel_rfl) (by kernel_rfl) (by kernel_rfl) (by kernel_rfl)
 have h38:=@run_callFunc_extern Tryz.prog 269 _ (ReflectliteType.relation "Implements" ReflectliteType.implements_) Tryz.func269 (by kernel_rfl) (by kernel_rfl) (by kernel_rfl) (by kernel_rfl)
 have h10:=@run_callFunc_extern Tryz.prog 52 _ ReflectliteType.typeOf Tryz.func52 (by kernel_rfl) (by kernel_rfl) (by kernel_rfl) (by kernel_rfl)
 have h35:=@run_callFunc_extern Tryz.prog 266 _ (ReflectliteType.relation "AssignableTo" ReflectliteType.assignableTo) Tryz.func266 (by kernel_rfl) (by kernel_rfl) (by kernel_rfl) (by kernel_rfl)
 have h11:=@run_callFunc_extern Tryz.prog 152 _ (ReflectliteValue.method (ReflectliteValue.valueError "reflectlite.Value.Elem" 0) ReflectliteValue.elem) Tryz.func152 (by kernel_rfl) (by kernel_rfl) (by kernel_rfl) (by kernel_rfl)
 have h12:=@run_callFunc_extern Tryz.prog 153 _ ReflectliteValue.set Tryz.func153 (by kernel_rfl) (by kernel_rfl) (by kernel_rfl) (by kernel_rfl)
 have tO:=aD8
 have mA:=lU
 have aE:=aUc
 have vE:=aKt
 have f6:=aF3
 have f7:=aQf
 have mK:=aIq
 have mE:=aHb
 have mI:=lN
 have kP:=aQs
 have kE:=aT1
 have eP:=aQi
 have iE:=aVm
 have hlt:0<w.heap.size:=by
  rcases Nat.lt_or_ge 0 w.heap.size with h|h
  ·exact h
  ·simp [World.cell?,Array.getElem?_eq_none h] at hg
 have htl:t.block<w.heap.size:=by
  rcases Nat.lt_or_ge t.block w.heap.size with h|h
  ·exact h
  ·simp [World.cell?,Array.getElem?_eq_none h] at ht0
 have n8:=aJ9 ⟨w.heap.size,0,none⟩ t (pV w t) (by simp [pV])
 have hg2:(pV w t).cell? ⟨0,0,none⟩=some (.iface 190 (.agg #[.pointer (some ⟨4,41,none⟩)])):=by
  unfold pV
  rw [World.cell?_alloc_lt _ _ ⟨0,0,none⟩ (by first|(simp;done)|(simp;omega)),World.cell?_alloc_lt _ _ ⟨0,0,none⟩ hlt];exact hg
 have el:=aKh ⟨w.heap.size,0,none⟩ t (aBm w t) (by unfold aBm;rw [World.cell?_alloc_lt _ _ ⟨w.heap.size,0,none⟩ (by first|(simp [pV];done)|(simp [pV];omega))];simp [pV])
 have st:=bBy t ⟨w.heap.size+1+1+1,0,none⟩ n old ((aBm w t).alloc (.cells #[.int .i64 n] 53))
  (by rw [World.cell?_alloc_at _ _ _ _ (by simp [aBm,pV])];rfl)
  (by unfold aBm pV;rw [World.cell?_alloc_lt _ _ t (by simp;omega),World.cell?_alloc_lt _ _ t (by simp;omega),World.cell?_alloc_lt _ _ t (by simp;omega),World.cell?_alloc_lt _ _ t htl];exact ht0)
  (by unfold aBm pV;rw [World.frozen?_alloc_old _ _ t (by simp;omega),World.frozen?_alloc_old _ _ t (by simp;omega),World.frozen?_alloc_old _ _ t (by simp;omega),World.frozen?_alloc_old _ _ t (Nat.ne_of_lt htl)];exact hf0)
 unfold aBm pV at el st
 unfold pV at n8 hg2
 go_enter Tryz.func49,Tryz.ntmps49
 go_wp2
 refine wp_loop_rounds 1 ?_
 rw [rounds_succ]
 go_wp2
 go_ret
 refine ⟨rfl,((((Go.K.Ext.alloc _ _).trans (Go.K.Ext.alloc _ _)).trans (Go.K.Ext.alloc _ _)).trans (Go.K.Ext.alloc _ _)).chg (Go.K.Chg.setCell _ t _),World.cell?_setCell_same _ _ _ (u:=old) ?_⟩
 rw [World.cell?_alloc_lt _ _ t (by simp;omega),World.cell?_alloc_lt _ _ t (by simp;omega),World.cell?_alloc_lt _ _ t (by simp;omega),World.cell?_alloc_lt _ _ t htl];exact ht0
end
section
open Go Go.RowKit Go.Extern.Stop Go.Stop Go.Extern
theorem bMn (v:Value) (xT:TypeId) (w:World):(Instr.typeAssert (.iface 122 v) xT 238 true).run Tryz.prog w=.ok (.tuple #[.nilIface,.bool false]) w:=run_typeAssert_lacksB Tryz.underlying238 (by kernel_rfl) (by kernel_rfl) v xT w
theorem bCf (v:Value) (xT:TypeId) (w:World):(Instr.typeAssert (.iface 122 v) xT 195 true).run Tryz.prog w=.ok (.tuple #[.iface 122 v,.bool true]) w:=run_typeAssert_hasB Tryz.underlying195 (by kernel_rfl) v xT w
theorem aSq (v:Value) (w:World):(Go.method 437 122 v "Unwrap").run Tryz.prog w=.ok (261,v) w:=by kernel_rfl
theorem bE {w:World} {o:Obj} {a:Addr} {v:Value} (h:w.cell? a=some v):(w.alloc o).cell? a=some v:=by
 have hlt:a.block<w.heap.size:=Go.K.cell_lt h
 rw [World.cell?_alloc_lt _ _ a hlt];exact h
theorem lY {w:World} {o:Obj} {a:Addr} {v:Value} (h:w.cell? a=some v) (hf:w.frozen? a=false):(w.alloc o).frozen? a=false:=by
 have hlt:a.block<w.heap.size:=Go.K.cell_lt h
 rw [World.frozen?_alloc_old _ _ a (Nat.ne_of_lt hlt)];exact hf
set_option maxHeartbeats 8000000 in
set_option maxRecDepth 20000 in
theorem bIv (n:Int) (b1:Nat) (t:Addr) (old:Value) (w:World) (hg:w.cell? ⟨0,0,none⟩=some (.iface 190 (.agg #[.pointer (some ⟨4,41,none⟩)]))) (hc1:w.cell? ⟨b1,1,none⟩=some (.iface 53 (.int .i64 n))) (ht0:w.cell? t=some old) (hf0:w.frozen? t=false):
  Calls Tryz.prog 49 #[.iface 122 (.pointer (some ⟨b1,0,none⟩)),.iface 121 (.pointer (some t))] w fun ev w'=>ev=.returned (.bool true)∧Go.K.Chg [t.block] w w'∧w'.cell? t=some (.int .i64 n):=by
 have h6:=@run_callFunc_extern Tryz.prog 104 _ (fun args=>ReflectliteValue.unpack (args.getD 0 (.tuple #[]))) Tryz.func104 (by kernel_rfl) (by kernel_rfl) (by kernel_rfl) (by kernel_rfl)
 have h7:=@run_callFunc_extern Tryz.prog 105 _ (ReflectliteValue.methodAny (ReflectliteValue.valueError "reflectlite.Value.Type" 0) (fun t _ _ _=>ReflectliteType.toType t)) Tryz.func105 (by kernel_rfl) (by kernel_rfl) (by kernel_rfl) (by kernel_rfl)
 have h8:=@run_callFunc_extern Tryz.prog 106 _ (ReflectliteValue.method (ReflectliteValue.valueError "reflectlite.Value.IsNil" 0) ReflectliteValue.isNil) Tryz.func106 (by kernel_rfl) (by kernel_rfl) (by kernel_rfl) (by kernel_rfl)
 have h27:=@run_callFunc_extern Tryz.prog 254 _ (ReflectliteType.abiMethod fun t=>do pure (.int .u8 (←Rtype.kind t))) Tryz.func254 (by kernel_rfl) (by kernel_rfl) (by kernel_rfl) (by kernel_rfl)
 have h37:=@run_callFunc_extern Tryz.prog 268 _ (ReflectliteType.method ReflectliteType.elem) Tryz.func268 (by kernel_rfl) (by kernel_rfl) (by kernel_rfl) (by kernel_rfl)
 have h38:=@run_callFunc_extern Tryz.prog 269 _ (ReflectliteType.relation "Implements" ReflectliteType.implements_) Tryz.func269 (by kernel_rfl) (by kernel_rfl) (by kernel_rfl) (by kernel_rfl)
 have h10:=@run_callFunc_extern Tryz.prog 52 _ ReflectliteType.typeOf Tryz.func52 (by kernel_rfl) (by kernel_rfl) (by kernel_rfl) (by kernel_rfl)
 have h35:=@run_callFunc_extern Tryz.prog 266 _ (ReflectliteType.relation "AssignableTo" ReflectliteType.assignableTo) Tryz.func266 (by kernel_rfl) (by kernel_rfl) (by kernel_rfl) (by kernel_rfl)
 have h11:=@run_callFunc_extern Tryz.prog 152 _ (ReflectliteValue.method (ReflectliteValue.valueError "reflectlite.Value.Elem" 0) ReflectliteValue.elem) Tryz.func152 (by kernel_rfl) (by kernel_rfl) (by kernel_rfl) (by kernel_rfl)
 have h12:=@run_callFunc_extern Tryz.prog 153 _ ReflectliteValue.set Tryz.func153 (by kernel_rfl) (by kernel_rfl) (by kernel_rfl) (by kernel_rfl)
 have tO:=aD8
 have tF:=aK9
 have mA:=lU
 have aE:=aUc
 have aF:=bCt
 have nF:=bMn
 have uF:=bCf
 have mU:=aSq
 have vE:=aKt
 have f6:=aF3
 have f7:=aQf
 have mK:=aIq
 have mE:=aHb
 have mI:=lN
 have kP:=aQs
 have kE:=aT1
 have eP:=aQi
 have iE:=aVm
 have n8:=aJ9 ⟨w.heap.size,0,none⟩ t (pV w t) (by simp [pV])
 have hg2:(pV w t).cell? ⟨0,0,none⟩=_:=bE (bE hg)
 have el:=aKh ⟨w.heap.size,0,none⟩ t (aBm w t) (bE (by simp [pV]))
 have hu3:(aBm w t).cell? ⟨b1,1,none⟩=_:=bE (bE (bE hc1))
 have st:=bBy t ⟨w.heap.size+1+1+1,0,none⟩ n old ((aBm w t).alloc (.cells #[.int .i64 n] 53))
  (by rw [World.cell?_alloc_at _ _ _ _ (by simp [aBm,pV])];rfl) (bE (bE (bE (bE ht0)))) (lY (bE (bE (bE ht0))) (lY (bE (bE ht0)) (lY (bE ht0) (lY ht0 hf0))))
 unfold aBm pV at el st hu3
 unfold pV at n8 hg2
 go_enter Tryz.func49,Tryz.ntmps49
 go_wp2
 refine wp_loop_rounds 2 ?_
 rw [rounds_succ]
 go_wp2
 rw [rounds_succ]
 go_wp2
 go_ret
 refine ⟨rfl,((((Go.K.Ext.alloc _ _).trans (Go.K.Ext.alloc _ _)).trans (Go.K.Ext.alloc _ _)).trans (Go.K.Ext.alloc _ _)).chg (Go.K.Chg.setCell _ t _),World.cell?_setCell_same _ _ _ (u:=old) (bE (bE (bE (bE ht0))))⟩
end
section
open Go Go.RowKit Go.Extern.Stop Go.Stop Go.Extern
set_option maxHeartbeats 8000000 in
set_option maxRecDepth 20000 in
theorem bGu (n:Int) (b1 b2:Nat) (t:Addr) (old:Value) (w:World) (hg:w.cell? ⟨0,0,none⟩=some (.iface 190 (.agg #[.pointer (some ⟨4,41,none⟩)]))) (hc1:w.cell? ⟨b1,1,none⟩=some (.iface 122 (.pointer (some ⟨b2,0,none⟩)))) (hc2:w.cell? ⟨b2,1,none⟩=some (.iface 53 (.int .i64 n))) (ht0:w.cell? t=some old) (hf0:w.frozen? t=false):
  Calls Tryz.prog 49 #[.iface 122 (.pointer (some ⟨b1,0,none⟩)),.iface 121 (.pointer (some t))] w fun ev w'=>ev=.returned (.bool true)∧Go.K.Chg [t.block] w w'∧w'.cell? t=some (.int .i64 n):=by
 have h6:=@run_callFunc_extern Tryz.prog 104 _ (fun args=>ReflectliteValue.unpack (args.getD 0 (.tuple #[]))) Tryz.func104 (by kernel_rfl) (by kernel_rfl) (by kernel_rfl) (by kernel_rfl)
 have h7:=@run_callFunc_extern Tryz.prog 105 _ (ReflectliteValue.methodAny (ReflectliteValue.valueError "reflectlite.Value.Type" 0) (fun t _ _ _=>ReflectliteType.toType t)) Tryz.func105 (by kernel_rfl) (by kernel_rfl) (by kernel_rfl) (by kernel_rfl)
 have h8:=@run_callFunc_extern Tryz.prog 106 _ (ReflectliteValue.method (ReflectliteValue.valueError "reflectlite.Value.IsNil" 0) ReflectliteValue.isNil) Tryz.func106 (by kernel_rfl) (by kernel_rfl) (by kernel_rfl) (by kernel_rfl)
 have h27:=@run_callFunc_extern Tryz.prog 254 _ (ReflectliteType.abiMethod fun t=>do pure (.int .u8 (←Rtype.kind t))) Tryz.func254 (by kernel_rfl) (by kernel_rfl) (by kernel_rfl) (by kernel_rfl)
 have h37:=@run_callFunc_extern Tryz.prog 268 _ (ReflectliteType.method ReflectliteType.elem) Tryz.func268 (by kernel_rfl) (by kernel_rfl) (by kernel_rfl) (by kernel_rfl)
 have h38:=@run_callFunc_extern Tryz.prog 269 _ (ReflectliteType.relation "Implements" ReflectliteType.implements_) Tryz.func269 (by kernel_rfl) (by kernel_rfl) (by kernel_rfl) (by kernel_rfl)
 have h10:=@run_callFunc_extern Tryz.prog 52 _ ReflectliteType.typeOf Tryz.func52 (by kernel_rfl) (by kernel_rfl) (by kernel_rfl) (by kernel_rfl)
 have h35:=@run_callFunc_extern Tryz.prog 266 _ (ReflectliteType.relation "AssignableTo" ReflectliteType.assignableTo) Tryz.func266 (by kernel_rfl) (by kernel_rfl) (by kernel_rfl) (by kernel_rfl)
 have h11:=@run_callFunc_extern Tryz.prog 152 _ (ReflectliteValue.method (ReflectliteValue.valueError "reflectlite.Value.Elem" 0) ReflectliteValue.elem) Tryz.func152 (by kernel_rfl) (by kernel_rfl) (by kernel_rfl) (by kernel_rfl)
 have h12:=@run_callFunc_extern Tryz.prog 153 _ ReflectliteValue.set Tryz.func153 (by kernel_rfl) (by kernel_rfl) (by kernel_rfl) (by kernel_rfl)
 have tO:=aD8
 have tF:=aK9
 have mA:=lU
 have aE:=aUc
 have aF:=bCt
 have nF:=bMn
 have uF:=bCf
 have mU:=aSq
 have vE:=aKt
 have f6:=aF3
 have f7:=aQf
 have mK:=aIq
 have mE:=aHb
 have mI:=lN
 have kP:=aQs
 have kE:=aT1
 have eP:=aQi
 have iE:=aVm
 have n8:=aJ9 ⟨w.heap.size,0,none⟩ t (pV w t) (by simp [pV])
 have hg2:(pV w t).cell? ⟨0,0,none⟩=_:=bE (bE hg)
 have el:=aKh ⟨w.heap.size,0,none⟩ t (aBm w t) (bE (by simp [pV]))
 have hu4:(aBm w t).cell? ⟨b2,1,none⟩=_:=bE (bE (bE hc2))
 have hu3:(aBm w t).cell? ⟨b1,1,none⟩=_:=bE (bE (bE hc1))
 have st:=bBy t ⟨w.heap.size+1+1+1,0,none⟩ n old ((aBm w t).alloc (.cells #[.int .i64 n] 53))
  (by rw [World.cell?_alloc_at _ _ _ _ (by simp [aBm,pV])];rfl) (bE (bE (bE (bE ht0)))) (lY (bE (bE (bE ht0))) (lY (bE (bE ht0)) (lY (bE ht0) (lY ht0 hf0))))
 unfold aBm pV at el st hu3 hu4
 unfold pV at n8 hg2
 go_enter Tryz.func49,Tryz.ntmps49
 go_wp2
 refine wp_loop_rounds 3 ?_
 rw [rounds_succ]
 go_wp2
 rw [rounds_succ]
 go_wp2
 rw [rounds_succ]
 go_wp2
 go_ret
 refine ⟨rfl,((((Go.K.Ext.alloc _ _).trans (Go.K.Ext.alloc _ _)).trans (Go.K.Ext.alloc _ _)).trans (Go.K.Ext.alloc _ _)).chg (Go.K.Chg.setCell _ t _),World.cell?_setCell_same _ _ _ (u:=old) (bE (bE (bE (bE ht0))))⟩
end
section
open Go Go.RowKit Go.Extern.Stop Go.Stop Go.Extern
theorem aL5 (t:Addr) (w:World):(ReflectliteValue.unpack (.iface 123 (.pointer (some t)))).run Tryz.prog w=.ok (.agg #[.pointer (some ⟨4,123,none⟩),.pointer (some ⟨w.heap.size,0,none⟩),.int .u64 150]) (w.alloc (.cells #[.pointer (some t)] 123)):=by kernel_rfl
theorem aSa (a:Addr) (w:World):(ReflectliteValue.methodAny (ReflectliteValue.valueError "reflectlite.Value.Type" 0) (fun t _ _ _=>ReflectliteType.toType t) #[.agg #[.pointer (some ⟨4,123,none⟩),.pointer (some a),.int .u64 150]]).run Tryz.prog w=.ok (.iface 190 (.agg #[.pointer (some ⟨4,123,none⟩)])) w:=by kernel_rfl
theorem aRy (w:World):((ReflectliteType.abiMethod fun t=>Functor.map (fun a:Nat=>Value.int IntKind.u8 (a:Int)) (Rtype.kind t)) #[.pointer (some ⟨4,123,none⟩)]).run Tryz.prog w=.ok (.int .u8 22) w:=by kernel_rfl
theorem aXe (w:World):((ReflectliteType.abiMethod fun t=>Functor.map (fun a:Nat=>Value.int IntKind.u8 (a:Int)) (Rtype.kind t)) #[.pointer (some ⟨4,122,none⟩)]).run Tryz.prog w=.ok (.int .u8 22) w:=by kernel_rfl
theorem aSc (w:World):(ReflectliteType.method ReflectliteType.elem #[.agg #[.pointer (some ⟨4,123,none⟩)]]).run Tryz.prog w=.ok (.iface 190 (.agg #[.pointer (some ⟨4,122,none⟩)])) w:=by kernel_rfl
theorem bCh (w:World):(ReflectliteType.relation "Implements" ReflectliteType.implements_ #[.agg #[.pointer (some ⟨4,122,none⟩)],.iface 190 (.agg #[.pointer (some ⟨4,41,none⟩)])]).run Tryz.prog w=.ok (.bool true) w:=by kernel_rfl
theorem bLr (w:World):(ReflectliteType.relation "AssignableTo" ReflectliteType.assignableTo #[.agg #[.pointer (some ⟨4,122,none⟩)],.iface 190 (.agg #[.pointer (some ⟨4,122,none⟩)])]).run Tryz.prog w=.ok (.bool true) w:=by kernel_rfl
theorem bKj (w:World):(ReflectliteType.relation "AssignableTo" ReflectliteType.assignableTo #[.agg #[.pointer (some ⟨4,53,none⟩)],.iface 190 (.agg #[.pointer (some ⟨4,122,none⟩)])]).run Tryz.prog w=.ok (.bool false) w:=by kernel_rfl
theorem bEe (e:Addr) (w:World):(ReflectliteValue.unpack (.iface 122 (.pointer (some e)))).run Tryz.prog w=.ok (.agg #[.pointer (some ⟨4,122,none⟩),.pointer (some ⟨w.heap.size,0,none⟩),.int .u64 150]) (w.alloc (.cells #[.pointer (some e)] 122)):=by kernel_rfl
theorem aOj (a:Addr) (w:World):(ReflectliteValue.parts (.agg #[.pointer (some ⟨4,123,none⟩),.pointer (some a),.int .u64 150])).run Tryz.prog w=.ok (some (123,a,150)) w:=by kernel_rfl
theorem aPs (a p:Addr) (W:World) (ha:W.cell? a=some (.pointer (some p))):
  (ReflectliteValue.method (ReflectliteValue.valueError "reflectlite.Value.IsNil" 0) ReflectliteValue.isNil #[.agg #[.pointer (some ⟨4,123,none⟩),.pointer (some a),.int .u64 150]]).run Tryz.prog W=.ok (.bool false) W:=by
 rw [bKs]
 simp only [Sem.run_bind,aOj,Result.andThen]
 simp [ReflectliteValue.isNil,loadVar,isAgg,underlying,Tryz.underlying123,ha,Result.andThen]
theorem aWf (w:World):(Rtype.elem? 123).run Tryz.prog w=.ok (some 122) w:=by kernel_rfl
theorem bO0 (p:Addr) (w:World):(ReflectliteValue.mk 122 p ReflectliteValue.flagAddr).run Tryz.prog w=.ok (.agg #[.pointer (some ⟨4,122,none⟩),.pointer (some p),.int .u64 406]) w:=by kernel_rfl
theorem bCd (a p:Addr) (W:World) (ha:W.cell? a=some (.pointer (some p))):
  (ReflectliteValue.method (ReflectliteValue.valueError "reflectlite.Value.Elem" 0) ReflectliteValue.elem #[.agg #[.pointer (some ⟨4,123,none⟩),.pointer (some a),.int .u64 150]]).run Tryz.prog W
   =.ok (.agg #[.pointer (some ⟨4,122,none⟩),.pointer (some p),.int .u64 406]) W:=by
 rw [bKs]
 simp only [Sem.run_bind,aOj,Result.andThen]
 simp [ReflectliteValue.elem,loadVar,isAgg,underlying,Tryz.underlying123,ha,Result.andThen,aWf,bO0]
theorem bD7 (a:Addr) (w:World):(ReflectliteValue.parts (.agg #[.pointer (some ⟨4,122,none⟩),.pointer (some a),.int .u64 406])).run Tryz.prog w=.ok (some (122,a,406)) w:=by kernel_rfl
theorem bGr (a:Addr) (w:World):(ReflectliteValue.parts (.agg #[.pointer (some ⟨4,122,none⟩),.pointer (some a),.int .u64 150])).run Tryz.prog w=.ok (some (122,a,150)) w:=by kernel_rfl
theorem bFk (w:World):(Rtype.directlyAssignable 122 122).run Tryz.prog w=.ok true w:=by kernel_rfl
theorem bNt (ta b e:Addr) (old:Value) (W:World) (hb:W.cell? b=some (.pointer (some e))) (ht:W.cell? ta=some old) (hf:W.frozen? ta=false):
  (ReflectliteValue.set #[.agg #[.pointer (some ⟨4,122,none⟩),.pointer (some ta),.int .u64 406],.agg #[.pointer (some ⟨4,122,none⟩),.pointer (some b),.int .u64 150]]).run Tryz.prog W
   =.ok (.tuple #[]) (W.setCell ta (.pointer (some e))):=by
 rw [bOm]
 simp only [Sem.run_bind,bD7,bGr,Result.andThen]
 simp [ReflectliteValue.flagAddr,loadVar,isAgg,underlying,Tryz.underlying122,hb,Result.andThen,bFk,storeVar,Value.cells,storeCells,Addr.add]
 rw [run_store Tryz.prog W ta _ _ (by rfl)]
 simp [ht,hf]
theorem bOs (v:Value) (xT:TypeId) (w:World):(Instr.typeAssert (.iface 53 v) xT 238 true).run Tryz.prog w=.ok (.tuple #[.nilIface,.bool false]) w:=run_typeAssert_lacksB Tryz.underlying238 (by kernel_rfl) (by kernel_rfl) v xT w
def aNa (w:World) (t:Addr):World:=(w.alloc (.cells #[.pointer (some t)] 123)).alloc (.cells #[.pointer (some ⟨4,123,none⟩),.pointer (some ⟨w.heap.size,0,none⟩),.int .u64 150] 182)
def bKp (w:World) (t:Addr):World:=(aNa w t).alloc (.cells #[.pointer (some ⟨4,123,none⟩),.pointer (some ⟨w.heap.size,0,none⟩),.int .u64 150] 182)
set_option maxHeartbeats 8000000 in
set_option maxRecDepth 20000 in
theorem bKh (b1:Nat) (t:Addr) (old:Value) (w:World) (hg:w.cell? ⟨0,0,none⟩=some (.iface 190 (.agg #[.pointer (some ⟨4,41,none⟩)]))) (ht0:w.cell? t=some old) (hf0:w.frozen? t=false):
  Calls Tryz.prog 49 #[.iface 122 (.pointer (some ⟨b1,0,none⟩)),.iface 123 (.pointer (some t))] w fun ev w'=>ev=.returned (.bool true)∧Go.K.Chg [t.block] w w'∧w'.cell? t=some (.pointer (some ⟨b1,0,none⟩)):=by
 have h6:=@run_callFunc_extern Tryz.prog 104 _ (fun args=>ReflectliteValue.unpack (args.getD 0 (.tuple #[]))) Tryz.func104 (by kernel_rfl) (by kernel_rfl) (by kernel_rfl) (by kernel_rfl)
 have h7:=@run_callFunc_extern Tryz.prog 105 _ (ReflectliteValue.methodAny (ReflectliteValue.valueError "reflectlite.Value.Type" 0) (fun t _ _ _=>ReflectliteType.toType t)) Tryz.func105 (by kernel_rfl) (by kernel_rfl) (by kernel_rfl) (by kernel_rfl)
 have h8:=@run_callFunc_extern Tryz.prog 106 _ (ReflectliteValue.method (ReflectliteValue.valueError "reflectlite.Value.IsNil" 0) ReflectliteValue.isNil) Tryz.func106 (by kernel_rfl) (by kernel_rfl) (by kernel_rfl) (by kernel_rfl)
 have h27:=@run_callFunc_extern Tryz.prog 254 _ (ReflectliteType.abiMethod fun t=>do pure (.int .u8 (←Rtype.kind t))) Tryz.func254 (by kernel_rfl) (by kernel_rfl) (by kernel_rfl) (by kernel_rfl)
 have h37:=@run_callFunc_extern Tryz.prog 268 _ (ReflectliteType.method ReflectliteType.elem) Tryz.func268 (by kernel_rfl) (by kernel_rfl) (by kernel_rfl) (by kernel_rfl)
 have h38:=@run_callFunc_extern Tryz.prog 269 _ (ReflectliteType.relation "Implements" ReflectliteType.implements_) Tryz.func269 (by kernel_rfl) (by kernel_rfl) (by kernel_rfl) (by kernel_rfl)
 have h10:=@run_callFunc_extern Tryz.prog 52 _ ReflectliteType.typeOf Tryz.func52 (by kernel_rfl) (by kernel_rfl) (by kernel_rfl) (by kernel_rfl)
 have h35:=@run_callFunc_extern Tryz.prog 266 _ (ReflectliteType.relation "AssignableTo" ReflectliteType.assignableTo) Tryz.func266 (by kernel_rfl) (by kernel_rfl) (by kernel_rfl) (by kernel_rfl)
 have h11:=@run_callFunc_extern Tryz.prog 152 _ (ReflectliteValue.method (ReflectliteValue.valueError "reflectlite.Value.Elem" 0) ReflectliteValue.elem) Tryz.func152 (by kernel_rfl) (by kernel_rfl) (by kernel_rfl) (by kernel_rfl)
 have h12:=@run_callFunc_extern Tryz.prog 153 _ ReflectliteValue.set Tryz.func153 (by kernel_rfl) (by kernel_rfl) (by kernel_rfl) (by kernel_rfl)
 have tF:=aK9
 have mA:=lU
 have aF:=bLr
 have vF:=bEe
 have f6:=aL5
 have f7:=aSa
 have mK:=aIq
 have mE:=aHb
 have mI:=lN
 have kP:=aRy
 have kE:=aXe
 have eP:=aSc
 have iE:=bCh
 have n8:=aPs ⟨w.heap.size,0,none⟩ t (aNa w t) (by simp [aNa])
 have hg2:(aNa w t).cell? ⟨0,0,none⟩=_:=bE (bE hg)
 have el:=bCd ⟨w.heap.size,0,none⟩ t (bKp w t) (bE (by simp [aNa]))
 have st:=bNt t ⟨w.heap.size+1+1+1,0,none⟩ ⟨b1,0,none⟩ old ((bKp w t).alloc (.cells #[.pointer (some ⟨b1,0,none⟩)] 122))
  (by rw [World.cell?_alloc_at _ _ _ _ (by simp [bKp,aNa])];rfl) (bE (bE (bE (bE ht0)))) (lY (bE (bE (bE ht0))) (lY (bE (bE ht0)) (lY (bE ht0) (lY ht0 hf0))))
 unfold bKp aNa at el st
 unfold aNa at n8 hg2
 go_enter Tryz.func49,Tryz.ntmps49
 go_wp2
 refine wp_loop_rounds 1 ?_
 rw [rounds_succ]
 go_wp2
 go_ret
 refine ⟨rfl,((((Go.K.Ext.alloc _ _).trans (Go.K.Ext.alloc _ _)).trans (Go.K.Ext.alloc _ _)).trans (Go.K.Ext.alloc _ _)).chg (Go.K.Chg.setCell _ t _),World.cell?_setCell_same _ _ _ (u:=old) (bE (bE (bE (bE ht0))))⟩
set_option maxHeartbeats 8000000 in
set_option maxRecDepth 20000 in
theorem bIo (n:Int) (t:Addr) (w:World) (hg:w.cell? ⟨0,0,none⟩=some (.iface 190 (.agg #[.pointer (some ⟨4,41,none⟩)]))):
  Calls Tryz.prog 49 #[.iface 53 (.int .i64 n),.iface 123 (.pointer (some t))] w fun ev w'=>ev=.returned (.bool false)∧Go.K.Ext w w':=by
 have h6:=@run_callFunc_extern Tryz.prog 104 _ (fun args=>ReflectliteValue.unpack (args.getD 0 (.tuple #[]))) Tryz.func104 (by kernel_rfl) (by kernel_rfl) (by kernel_rfl) (by kernel_rfl)
 have h7:=@run_callFunc_extern Tryz.prog 105 _ (ReflectliteValue.methodAny (ReflectliteValue.valueError "reflectlite.Value.Type" 0) (fun t _ _ _=>ReflectliteType.toType t)) Tryz.func105 (by kernel_rfl) (by kernel_rfl) (by kernel_rfl) (by kernel_rfl)
 have h8:=@run_callFunc_extern Tryz.prog 106 _ (ReflectliteValue.method (ReflectliteValue.valueError "reflectlite.Value.IsNil" 0) ReflectliteValue.isNil) Tryz.func106 (by kernel_rfl) (by kernel_rfl) (by kernel_rfl) (by kernel_rfl)
 have h27:=@run_callFunc_extern Tryz.prog 254 _ (ReflectliteType.abiMethod fun t=>do pure (.int .u8 (←Rtype.kind t))) Tryz.func254 (by kernel_rfl) (by kernel_rfl) (by kernel_rfl) (by kernel_rfl)
 have h37:=@run_callFunc_extern Tryz.prog 268 _ (ReflectliteType.method ReflectliteType.elem) Tryz.func268 (by kernel_rfl) (by kernel_rfl) (by kernel_rfl) (by kernel_rfl)
 have h38:=@run_callFunc_extern Tryz.prog 269 _ (ReflectliteType.relation "Implements" ReflectliteType.implements_) Tryz.func269 (by kernel_rfl) (by kernel_rfl) (by kernel_rfl) (by kernel_rfl)
 have h10:=@run_callFunc_extern Tryz.prog 52 _ ReflectliteType.typeOf Tryz.func52 (by kernel_rfl) (by kernel_rfl) (by kernel_rfl) (by kernel_rfl)
 have h35:=@run_callFunc_extern Tryz.prog 266 _ (ReflectliteType.relation "AssignableTo" ReflectliteType.assignableTo) Tryz.func266 (by kernel_rfl) (by kernel_rfl) (by kernel_rfl) (by kernel_rfl)
 have h11:=@run_callFunc_extern Tryz.prog 152 _ (ReflectliteValue.method (ReflectliteValue.valueError "reflectlite.Value.Elem" 0) ReflectliteValue.elem) Tryz.func152 (by kernel_rfl) (by kernel_rfl) (by kernel_rfl) (by kernel_rfl)
 have h12:=@run_callFunc_extern Tryz.prog 153 _ ReflectliteValue.set Tryz.func153 (by kernel_rfl) (by kernel_rfl) (by kernel_rfl) (by kernel_rfl)
 have tO:=aD8
 have mA:=lU
 have aE:=bKj
 have nA:=bOs
 have uE:=bF9
 have uS:=bBa
 have f6:=aL5
 have f7:=aSa
 have mK:=aIq
 have mE:=aHb
 have mI:=lN
 have kP:=aRy
 have kE:=aXe
 have eP:=aSc
 have iE:=bCh
 have n8:=aPs ⟨w.heap.size,0,none⟩ t (aNa w t) (by simp [aNa])
 have hg2:(aNa w t).cell? ⟨0,0,none⟩=_:=bE (bE hg)
 unfold aNa at n8 hg2
 go_enter Tryz.func49,Tryz.ntmps49
 go_wp2
 refine wp_loop_rounds 1 ?_
 rw [rounds_succ]
 go_wp2
 go_ret
 exact ⟨rfl,((Go.K.Ext.alloc _ _).trans (Go.K.Ext.alloc _ _)).trans (Go.K.Ext.alloc _ _)⟩
end
end Go.Proofs.YtfebcajheojodaaGreatDoor
