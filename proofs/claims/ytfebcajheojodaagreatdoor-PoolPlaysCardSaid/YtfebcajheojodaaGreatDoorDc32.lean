/- Plain: transactions over coins, made of small numbers. What comes in for the laws of pools. Contracts: errors.Is of equal numbers (walked with the kit's own steps). Contracts: errors.As at a variable of a number, and at one of a fault (walked with the kit's own steps). Contracts: errors.As at a variable of a number: the number itself. Contracts: errors.As at a variable of a number: faults that wra -/
import Derived.Test.YtfebcajheojodaaGreatDoorRows
import Derived.Test.YtfebcajheojodaaGreatDoorChecked
import Derived.ProofKit
import Derived.ShutString
import Derived.ChangeOld
import Derived.Below
import Derived.WalkKit
import Derived.LaidEql
import Derived.Lib.IfaceEq
import Derived.Stop.Asserts
import Derived.RowKitTokens
import Derived.Test.YtfebcajheojodaaGreatDoorDc31
set_option linter.unusedVariables false
set_option linter.unusedSimpArgs false
section
namespace Go.K
open Go Go.Proofs.YtfebcajheojodaaGreatDoor
structure PSm where
 spends:List UInt8
 tag:UInt8
 fee:Int
 pays:UInt8
 mark:UInt8
 final:Bool
 wait:UInt8
instance:Inhabited PSm:=⟨⟨[],0,0,0,0,false,0⟩⟩
def psmCs (z:PSm) (fv:Value):List Value:= [fv,u8V z.tag,.int .u16 z.fee,u8V z.pays,u8V z.mark,.bool z.final,u8V z.wait]
def psmR:R PSm where
 k:=7
 pos:=by decide
 ag:=true
 rel:=fun M w cs z=>∃fv,cs=psmCs z fv∧SlR u8R M w fv z.spends∧0≤z.fee∧z.fee≤65535
 len:=fun ⟨_,h,_⟩=>by rw [h];rfl
 one:=fun ⟨fv,h,hs,_⟩ v hv=>by
  obtain ⟨b,c,rfl⟩:=hs.form
  subst h;simp [psmCs] at hv;rcases hv with rfl|rfl|rfl|rfl|rfl|rfl|rfl<;>rfl
 step:=fun ⟨fv,h,hs,h2⟩ c hL hM=>⟨fv,h,hs.step c hL hM,h2⟩
def u16R:R Int where
 k:=1
 pos:=by decide
 ag:=false
 rel:=fun _ _ cs n=>cs= [.int .u16 n]∧0≤n∧n≤65535
 len:=fun ⟨h,_⟩=>by rw [h];rfl
 one:=fun ⟨h,_⟩ v hv=>by subst h;simp at hv;subst hv;rfl
 step:=fun h _ _ _=>h
def lockP:ByteArray:=⟨#[1,1,0,0,0,0,0,0,0]⟩
def coinP (n:Int):Cn:=⟨10*n,lockP,1⟩
def coinsP (vals:List Int):Nat→List En
 |0=> []
 |n+1=>refPut (coinsP vals n) ⟨idN (300+n),0⟩ (coinP (vals.getD n 0))
def pickP (V:List En) (s:UInt8):Option En:=if s.toNat<250∧0<V.length then V[s.toNat%V.length]? else none
def ptP (V:List En) (s:UInt8):Pt:=match pickP V s with
 |some e=>e.1
 |none=>⟨idN s.toNat,0⟩
def valP (V:List En) (s:UInt8):Int:=match pickP V s with
 |some e=>e.2.v
 |none=>0
def seqP (z:PSm):Int:=if 0<z.wait.toNat then ((z.wait.toNat%8:Nat):Int) else if z.final then 4294967294 else 4294967293
def witZ (z:PSm):ByteArray:=str [0,UInt8.ofNat (z.tag.toNat%3),0]
def inP (V:List En) (z:PSm) (s:UInt8):TIn:=⟨ptP V s,seqP z, [witZ z]⟩
def scrP (z:PSm):ByteArray:=((⟨#[1,1,0]⟩:ByteArray)++str [UInt8.ofNat (z.pays.toNat / 64)])++(⟨#[0,0,0,0,0]⟩:ByteArray)
def cutP (left:Int) (k:Nat):Int:=if left.tdiv (k:Nat)<0 then 0 else left.tdiv (k:Nat)
def outsP (s:ByteArray):Nat→Int→List TOut
 |0,_=> []
 |k+1,left=>⟨cutP left (k+1),s⟩::outsP s k (left - cutP left (k+1))
def sumP (V:List En) (z:PSm):Int:=((z.spends.take 4).map (valP V)).sum
def makeP (V:List En) (z:PSm):Tx:=⟨2,(z.spends.take 4).map (inP V z),outsP (scrP z) (1+z.pays.toNat%3) (sumP V z - z.fee),((z.mark.toNat%3:Nat):Int)⟩
theorem outsP_len (s:ByteArray):∀(k:Nat) (left:Int),(outsP s k left).length=k
 |0,_=>rfl
 |k+1,left=>by rw [outsP,List.length_cons,outsP_len s k]
theorem makeP_ins (V:List En) (z:PSm):(makeP V z).ins.length≤4:=by
 show ((z.spends.take 4).map (inP V z)).length≤4
 rw [List.length_map,List.length_take];omega
theorem makeP_outs (V:List En) (z:PSm):1≤(makeP V z).outs.length∧(makeP V z).outs.length≤3:=by
 show 1≤(outsP _ _ _).length∧(outsP _ _ _).length≤3
 rw [outsP_len];omega
theorem makeP_sm (V:List En) (z:PSm):(makeP V z).Sm:=by
 refine ⟨by have:=makeP_ins V z;omega,by have:=makeP_outs V z;omega,fun x hx=>?_⟩
 obtain ⟨s, -,rfl⟩:=List.mem_map.1 (show x∈(z.spends.take 4).map (inP V z) from hx)
 show [witZ z].length≤1000
 simp
theorem pick_mem {V:List En} {s:UInt8} {e:En} (h:pickP V s=some e):e∈V:=by
 unfold pickP at h
 split at h
 ·exact List.mem_of_getElem? h
 ·cases h
theorem ptP_is32 {V:List En} (hV:∀e∈V,is32 e.1.i) (s:UInt8):is32 (ptP V s).i:=by
 unfold ptP
 cases h:pickP V s with
 |some e=>exact hV e (pick_mem h)
 |none=>exact ⟨by show (0:Int)≤0;omega,by show (0:Int)<4294967296;omega⟩
theorem makeP_pts {V:List En} (hV:∀e∈V,is32 e.1.i) (z:PSm):∀p∈points (makeP V z),is32 p.i:=by
 intro p hp
 obtain ⟨x,hx,rfl⟩:=List.mem_map.1 hp
 obtain ⟨s, -,rfl⟩:=List.mem_map.1 (show x∈(z.spends.take 4).map (inP V z) from hx)
 exact ptP_is32 hV s
theorem valP_le {V:List En} {B:Int} (hB:0≤B) (hV:∀e∈V,0≤e.2.v∧e.2.v≤B) (s:UInt8):0≤valP V s∧valP V s≤B:=by
 unfold valP
 cases h:pickP V s with
 |some e=>exact hV e (pick_mem h)
 |none=>exact ⟨Int.le_refl _,hB⟩
theorem sum_take_le {V:List En} {B:Int} (hB:0≤B) (hV:∀e∈V,0≤e.2.v∧e.2.v≤B):∀(l:List UInt8),0≤(l.map (valP V)).sum∧(l.map (valP V)).sum≤B*l.length
 | []=>by simp
 |s::l=>by
  have h1:=valP_le hB hV s
  have h2:=sum_take_le hB hV l
  rw [List.map_cons,List.sum_cons,List.length_cons]
  have e:B*((l.length+1:Nat):Int)=B*(l.length:Nat)+B:=by push_cast;rw [Int.mul_add,Int.mul_one]
  rw [e];omega
theorem cutP_bound {left:Int} {k:Nat} (hk:0<k) (hl: -100000≤left) {C:Int} (hC:left≤C) (h0:0≤C):0≤cutP left k∧cutP left k≤C∧ -100000≤left - cutP left k∧left - cutP left k≤C:=by
 unfold cutP
 by_cases hn:0≤left
 ·obtain ⟨n,rfl⟩:=Int.eq_ofNat_of_zero_le hn
  have e:((n:Nat):Int).tdiv (k:Nat)=((n / k:Nat):Int):=by
   rw [Int.tdiv_eq_ediv_of_nonneg (by omega)];rfl
  have:=Nat.div_le_self n k
  rw [e]
  generalize n / k=q at this ⊢
  rw [if_neg (by omega)];omega
 ·have e:left.tdiv (k:Nat)≤0:=by
   obtain ⟨n,hn2⟩:=Int.eq_ofNat_of_zero_le (show 0≤ -left by omega)
   have:left= -((n:Nat):Int):=by omega
   rw [this,Int.neg_tdiv,Int.tdiv_eq_ediv_of_nonneg (by omega)]
   have:(0:Int)≤((n:Nat):Int) / ((k:Nat):Int):=Int.ediv_nonneg (by omega) (by omega)
   omega
  split<;>omega
structure CoinsOk (V:List En) (n:Nat):Prop where
 srt:Srt V
 len:V.length≤n
 each:∀e∈V,e.1.s.size=32∧e.1.i=0∧0≤e.2.v∧e.2.v≤655350∧e.2.s=lockP∧e.2.h=1
theorem tot_le_len {V:List En} {c:Int} (h:∀e∈V,e.2.v≤c):tot V≤c*(V.length:Nat):=by
 induction V with
 |nil=>simp
 |cons e V ih=>
  have h1:=ih (fun d hd=>h d (by simp [hd]))
  have h2:=h e (by simp)
  rw [tot_cons,List.length_cons]
  have e1:c*((V.length+1:Nat):Int)=c*(V.length:Nat)+c:=by push_cast;rw [Int.mul_add,Int.mul_one]
  rw [e1];omega
theorem CoinsOk.tot {V:List En} {n:Nat} (h:CoinsOk V n) (hn:n≤1000):0≤tot V∧tot V≤655350*(n:Nat):=by
 have h1:=tot_le_len (V:=V) (c:=655350) (fun e he=>(h.each e he).2.2.2.1)
 have h2:=h.len
 exact ⟨Mon.pos fun e he=>(h.each e he).2.2.1,by omega⟩
theorem CoinsOk.mon {V:List En} {n:Nat} (h:CoinsOk V n) (hn:n≤1000):Mon V:=⟨fun e he=>(h.each e he).2.2.1,by have:=(h.tot hn).2;omega⟩
theorem CoinsOk.nodup {V:List En} {n:Nat} (h:CoinsOk V n):(V.map (·.1)).Nodup:=srt_nodup h.srt
theorem coinsP_ok {vals:List Int} (hv:∀a∈vals,0≤a∧a≤65535):∀n,CoinsOk (coinsP vals n) n
 |0=>⟨List.Pairwise.nil,Nat.le_refl _,fun e he=>by cases he⟩
 |n+1=>by
  have h:=coinsP_ok hv n
  obtain ⟨h1,h2,h3⟩:=put_sim (List.Perm.refl (coinsP vals n)) h.srt ⟨idN (300+n),0⟩ (coinP (vals.getD n 0))
  have hd:0≤vals.getD n 0∧vals.getD n 0≤65535:=by
   rw [List.getD_eq_getElem?_getD]
   cases hg:vals[n]? with
   |none=>exact ⟨Int.le_refl _,by decide⟩
   |some a=>exact hv a (List.mem_of_getElem? hg)
  refine ⟨h2,Nat.le_trans h3 (by have:=h.len;omega),fun e he=>?_⟩
  have he':=h1.symm.subset he
  unfold putMap at he'
  have old:=h.each e
  split at he'
  ·rcases List.mem_append.1 he' with h5|h5
   ·exact old h5
   ·simp only [List.mem_singleton] at h5
    subst h5
    exact ⟨idN_size _,rfl,by show 0≤10*_;omega,by show 10*_≤_;omega,rfl,rfl⟩
  ·exact old he'
theorem put_next {V:List En} {n:Nat} (h:CoinsOk V n) (hn:n≤1000) {i:Nat} (hi:i<V.length):putCode (V.take i) V[i].1 V[i].2=0∧putMap (V.take i) V[i].1 V[i].2=V.take (i+1):=by
 obtain ⟨e1,e2,e3,e4,e5,e6⟩:=h.each _ (List.getElem_mem hi)
 have hf:formedB V[i].1 V[i].2=true:=by
  unfold formedB
  rw [e1,e6,(goodB_iff _).2 ⟨e3,by omega⟩];rfl
 have hnone:aget (V.take i) V[i].1=none:=by
  cases hg:aget (V.take i) V[i].1 with
  |none=>rfl
  |some c=>
   exfalso
   have hm:=aget_mem hg
   obtain ⟨j,hj,e⟩:=List.getElem_of_mem hm
   rw [List.length_take] at hj
   rw [List.getElem_take] at e
   have hd:=List.pairwise_iff_getElem.1 h.nodup j i (by simp;omega) (by simpa using hi) (by omega)
   simp only [List.getElem_map] at hd
   exact hd (by rw [e])
 have ht:=tot_take_le (h.mon hn) (i+1)
 have ht0:=tot_take_le (h.mon hn) i
 have he:=tot_take hi
 have hT:=(h.mon hn).2
 have hz:putCode (V.take i) V[i].1 V[i].2=0:=by
  unfold putCode
  rw [hf,hnone,if_pos rfl,if_neg (by simp),if_pos ((goodB_iff _).2 (by omega))]
 refine ⟨hz,?_⟩
 unfold putMap
 rw [if_pos hz,List.take_succ_eq_append_getElem hi]
end Go.K
end
section
namespace Go.Proofs.YtfebcajheojodaaGreatDoor
open Go Go.K Go.ChangeShapes Go.WideShapes Go.ChangeAt Go.RowKit
set_option maxRecDepth 100000
theorem own:ownKnob Tryz.prog.godebug=none:=by kernel_rfl
theorem laidOut:laidOutB Tryz.prog=true:=by kernel_rfl
theorem c_int:Tryz.prog.cellsOf 3=1:=by kernel_rfl
theorem c_u8:Tryz.prog.cellsOf 5=1:=by kernel_rfl
theorem c_u32:Tryz.prog.cellsOf 22=1:=by kernel_rfl
theorem c_string:Tryz.prog.cellsOf 9=1:=by kernel_rfl
theorem c_u16:Tryz.prog.cellsOf 30=1:=by kernel_rfl
theorem c_bool:Tryz.prog.cellsOf 4=1:=by kernel_rfl
theorem c_point:Tryz.prog.cellsOf 83=2:=by kernel_rfl
theorem c_lu8:Tryz.prog.cellsOf 33=1:=by kernel_rfl
theorem reads_u8 {W:World} {c:List Value} (h:Reads Tryz.prog W 5 c):∃b:UInt8,c= [u8V b]:=by
 obtain ⟨n,e,h1,h2⟩:=reads_int Tryz.underlying5 h
 have h1:0≤n:=h1
 have h2:n≤255:=h2
 refine ⟨UInt8.ofNat n.toNat,?_⟩
 have:(UInt8.ofNat n.toNat).toNat=n.toNat:=by rw [UInt8.toNat_ofNat'];omega
 unfold u8V
 rw [e,this]
 congr 2;omega
theorem reads_i64 {W:World} {c:List Value} (h:Reads Tryz.prog W 3 c):∃n:Int,c= [.int .i64 n]∧is64 n:=by
 obtain ⟨n,e,h1,h2⟩:=reads_int Tryz.underlying3 h
 have h1: -9223372036854775808≤n:=h1
 have h2:n≤9223372036854775807:=h2
 exact ⟨n,e,by unfold is64;omega⟩
theorem reads_u32 {W:World} {c:List Value} (h:Reads Tryz.prog W 22 c):∃n:Int,c= [.int .u32 n]∧is32 n:=by
 obtain ⟨n,e,h1,h2⟩:=reads_int Tryz.underlying22 h
 have h1:0≤n:=h1
 have h2:n≤4294967295:=h2
 exact ⟨n,e,by unfold is32;omega⟩
theorem reads_point {W:World} {c:List Value} (h:Reads Tryz.prog W 83 c):∃p:Pt,c=p.cs∧is32 p.i:=by
 obtain ⟨h1,h2⟩:=reads_struct Tryz.underlying83 h
 have l:c.length=2:=h1.trans c_point
 match c,l with
 | [c0,c1],_=>
  have g0:=h2 _ (List.mem_of_getElem? (i:=0) rfl)
  have g1:=h2 _ (List.mem_of_getElem? (i:=1) rfl)
  obtain ⟨s,e0,_⟩:=reads_string Tryz.underlying9 g0
  obtain ⟨i,e1,hi⟩:=reads_u32 g1
  simp only [c_string,c_u32,List.drop_zero,List.drop_succ_cons,List.take_succ_cons,List.take_zero,List.cons.injEq,and_true] at e0 e1
  exact ⟨⟨s,i⟩,by rw [e0,e1];rfl,hi⟩
theorem reads_u16 {W:World} {c:List Value} (h:Reads Tryz.prog W 30 c):∃n:Int,c= [.int .u16 n]∧0≤n∧n≤65535:=by
 obtain ⟨n,e,h1,h2⟩:=reads_int Tryz.underlying30 h
 exact ⟨n,e,h1,h2⟩
theorem reads_psm {W:World} {c:List Value} (h:Reads Tryz.prog W 35 c):∃z:PSm,psmR.rel [] W c z:=by
 obtain ⟨h1,h2⟩:=reads_struct Tryz.underlying35 h
 have l:c.length=7:=h1.trans (by kernel_rfl)
 match c,l with
 | [c0,c1,c2,c3,c4,c5,c6],_=>
  have g0:=h2 _ (List.mem_of_getElem? (i:=0) rfl)
  have g1:=h2 _ (List.mem_of_getElem? (i:=1) rfl)
  have g2:=h2 _ (List.mem_of_getElem? (i:=2) rfl)
  have g3:=h2 _ (List.mem_of_getElem? (i:=3) rfl)
  have g4:=h2 _ (List.mem_of_getElem? (i:=4) rfl)
  have g5:=h2 _ (List.mem_of_getElem? (i:=5) rfl)
  have g6:=h2 _ (List.mem_of_getElem? (i:=6) rfl)
  simp only [c_lu8,List.drop_zero,List.drop_succ_cons,List.take_succ_cons,List.take_zero] at g0
  obtain ⟨frm,hf,hfl⟩:=reads_slR u8R Tryz.underlying33 (by kernel_rfl) (fun c hc=>by
   obtain ⟨b,e⟩:=reads_u8 hc
   exact ⟨b,by subst e;rfl⟩) g0
  obtain ⟨b1,e1⟩:=reads_u8 g1
  obtain ⟨f,e2,hf1,hf2⟩:=reads_u16 g2
  obtain ⟨b3,e3⟩:=reads_u8 g3
  obtain ⟨b4,e4⟩:=reads_u8 g4
  obtain ⟨o,e5⟩:=reads_bool Tryz.underlying4 g5
  obtain ⟨b6,e6⟩:=reads_u8 g6
  simp only [c_u8,c_u16,c_bool,List.drop_zero,List.drop_succ_cons,List.take_succ_cons,List.take_zero,List.cons.injEq,and_true] at e1 e2 e3 e4 e5 e6
  exact ⟨⟨frm,b1,f,b3,b4,o,b6⟩,c0,by rw [e1,e2,e3,e4,e5,e6];rfl,hf,hf1,hf2⟩
theorem reads_psms {W:World} {v:Value} (h:Reads Tryz.prog W 60 [v]):∃l,SlR psmR [] W v l∧l.length≤maxLen:=
 reads_slR psmR Tryz.underlying60 (by kernel_rfl) (fun _ h=>reads_psm h) h
theorem reads_u16s {W:World} {v:Value} (h:Reads Tryz.prog W 31 [v]):∃l,SlR u16R [] W v l∧l.length≤maxLen:=
 reads_slR u16R Tryz.underlying31 (by kernel_rfl) (fun c hc=>by
  obtain ⟨n,e,h1,h2⟩:=reads_u16 hc
  exact ⟨n,by subst e;exact ⟨rfl,h1,h2⟩⟩) h
theorem u16_all {M:List Nat} {w:World} {v:Value} {l:List Int} (h:SlR u16R M w v l):∀a∈l,0≤a∧a≤65535:=by
 obtain ⟨css,h1,h2,h3⟩:=h
 intro a ha
 obtain ⟨i,hi,rfl⟩:=List.getElem_of_mem ha
 exact (h2.get i (by rw [h2.length];exact hi) hi).2
end Go.Proofs.YtfebcajheojodaaGreatDoor
end
section
namespace Go.Proofs.YtfebcajheojodaaGreatDoor
open Go Go.RowKit Go.Extern.Stop Go.Stop Go.Extern
theorem isTypeOf (v:Value) (w:World):(Extern.ReflectliteType.typeOf #[.iface 53 v]).run Tryz.prog w=.ok (.iface 190 (.agg #[.pointer (some ⟨4,53,none⟩)])) w:=by kernel_rfl
theorem isMethodComparable (v:Value) (w:World):(Go.method 437 190 v "Comparable").run Tryz.prog w=.ok (267,v) w:=by kernel_rfl
theorem isComparable (w:World):((Extern.ReflectliteType.method fun t=>do Extern.Rtype.noPackHeld "Comparable" t;Functor.map (fun a=>Value.bool a.comparable) (typeInfo t)) #[.agg #[.pointer (some ⟨4,53,none⟩)]]).run Tryz.prog w=.ok (.bool true) w:=by kernel_rfl
theorem noUnwrapE (v:Value) (xT:TypeId) (w:World):(Instr.typeAssert (.iface 53 v) xT 195 true).run Tryz.prog w=.ok (.tuple #[.nilIface,.bool false]) w:=run_typeAssert_lacksB Tryz.underlying195 (by kernel_rfl) (by kernel_rfl) v xT w
theorem noUnwrapsE (v:Value) (xT:TypeId) (w:World):(Instr.typeAssert (.iface 53 v) xT 197 true).run Tryz.prog w=.ok (.tuple #[.nilIface,.bool false]) w:=run_typeAssert_lacksB Tryz.underlying197 (by kernel_rfl) (by kernel_rfl) v xT w
set_option maxRecDepth 20000 in
theorem is_same (a:Int) (w:World):
  Calls Tryz.prog 18 #[.iface 53 (.int .i64 a),.iface 53 (.int .i64 a)] w fun e w'=>e=.returned (.bool true)∧w'=w:=by
 have h8:=@run_callFunc_extern Tryz.prog 52 _ Extern.ReflectliteType.typeOf Tryz.func52 (by kernel_rfl) (by kernel_rfl) (by kernel_rfl) (by kernel_rfl)
 have h32:=@run_callFunc_extern Tryz.prog 267 _ (Extern.ReflectliteType.method fun t=>do Extern.Rtype.noPackHeld "Comparable" t;pure (.bool (←typeInfo t).comparable)) Tryz.func267 (by kernel_rfl) (by kernel_rfl) (by kernel_rfl) (by kernel_rfl)
 have tT:=isTypeOf
 have cT:=isComparable
 have mR:=isMethodComparable
 have heq:=Go.Lib.run_eql_iface_int (P:=Tryz.prog) w (t:=41) (tx:=53) (k:=.i64) (q:=.i64) a a Tryz.underlying41 (by kernel_rfl) Tryz.underlying53
 go_enter Tryz.func18,Tryz.ntmps18
 go_wp2
 refine wp_loop_rounds 1 ?_
 rw [rounds_succ]
 go_wp2
 go_ret
 exact ⟨rfl,rfl⟩
theorem errIs_same (a:Int) (w:World):K.Spec Tryz.prog 18 [.iface 53 (.int .i64 a),.iface 53 (.int .i64 a)] w fun v w'=>v=.bool true∧w'=w:=
 Calls.mono (is_same a w) fun _ _ h=>⟨_,h.1,rfl,h.2⟩
end Go.Proofs.YtfebcajheojodaaGreatDoor
end
section
namespace Go.Proofs.YtfebcajheojodaaGreatDoor
open Go Go.RowKit Go.Extern.Stop Go.Stop Go.Extern
abbrev hB:Nat:=4
theorem asUnpackPE (t:Addr) (w:World):(ReflectliteValue.unpack (.iface 121 (.pointer (some t)))).run Tryz.prog w=.ok (.agg #[.pointer (some ⟨4,121,none⟩),.pointer (some ⟨w.heap.size,0,none⟩),.int .u64 150]) (w.alloc (.cells #[.pointer (some t)] 121)):=by kernel_rfl
theorem asTypePE (a:Addr) (w:World):(ReflectliteValue.methodAny (ReflectliteValue.valueError "reflectlite.Value.Type" 0) (fun t _ _ _=>ReflectliteType.toType t) #[.agg #[.pointer (some ⟨4,121,none⟩),.pointer (some a),.int .u64 150]]).run Tryz.prog w=.ok (.iface 190 (.agg #[.pointer (some ⟨4,121,none⟩)])) w:=by kernel_rfl
theorem asMKind (h:Value) (w:World):(Go.method 437 190 (.agg #[h]) "Kind").run Tryz.prog w=.ok (254,h) w:=by kernel_rfl
theorem asMElem (h:Value) (w:World):(Go.method 437 190 (.agg #[h]) "Elem").run Tryz.prog w=.ok (268,.agg #[h]) w:=by kernel_rfl
theorem asMImplements (h:Value) (w:World):(Go.method 437 190 (.agg #[h]) "Implements").run Tryz.prog w=.ok (269,.agg #[h]) w:=by kernel_rfl
theorem asMAssignable (h:Value) (w:World):(Go.method 437 190 (.agg #[h]) "AssignableTo").run Tryz.prog w=.ok (266,.agg #[h]) w:=by kernel_rfl
theorem asKindPE (w:World):((ReflectliteType.abiMethod fun t=>Functor.map (fun a:Nat=>Value.int IntKind.u8 (a:Int)) (Rtype.kind t)) #[.pointer (some ⟨4,121,none⟩)]).run Tryz.prog w=.ok (.int .u8 22) w:=by kernel_rfl
theorem asKindE (w:World):((ReflectliteType.abiMethod fun t=>Functor.map (fun a:Nat=>Value.int IntKind.u8 (a:Int)) (Rtype.kind t)) #[.pointer (some ⟨4,53,none⟩)]).run Tryz.prog w=.ok (.int .u8 2) w:=by kernel_rfl
theorem asElemPE (w:World):(ReflectliteType.method ReflectliteType.elem #[.agg #[.pointer (some ⟨4,121,none⟩)]]).run Tryz.prog w=.ok (.iface 190 (.agg #[.pointer (some ⟨4,53,none⟩)])) w:=by kernel_rfl
theorem asImplE (w:World):(ReflectliteType.relation "Implements" ReflectliteType.implements_ #[.agg #[.pointer (some ⟨4,53,none⟩)],.iface 190 (.agg #[.pointer (some ⟨4,41,none⟩)])]).run Tryz.prog w=.ok (.bool true) w:=by kernel_rfl
theorem asTypeOfE (v:Value) (w:World):(ReflectliteType.typeOf #[.iface 53 v]).run Tryz.prog w=.ok (.iface 190 (.agg #[.pointer (some ⟨4,53,none⟩)])) w:=by kernel_rfl
theorem asTypeOfF (v:Value) (w:World):(ReflectliteType.typeOf #[.iface 122 v]).run Tryz.prog w=.ok (.iface 190 (.agg #[.pointer (some ⟨4,122,none⟩)])) w:=by kernel_rfl
theorem asAssEE (w:World):(ReflectliteType.relation "AssignableTo" ReflectliteType.assignableTo #[.agg #[.pointer (some ⟨4,53,none⟩)],.iface 190 (.agg #[.pointer (some ⟨4,53,none⟩)])]).run Tryz.prog w=.ok (.bool true) w:=by kernel_rfl
theorem asAssFE (w:World):(ReflectliteType.relation "AssignableTo" ReflectliteType.assignableTo #[.agg #[.pointer (some ⟨4,122,none⟩)],.iface 190 (.agg #[.pointer (some ⟨4,53,none⟩)])]).run Tryz.prog w=.ok (.bool false) w:=by kernel_rfl
theorem asUnpackE (n:Int) (w:World):(ReflectliteValue.unpack (.iface 53 (.int .i64 n))).run Tryz.prog w=.ok (.agg #[.pointer (some ⟨4,53,none⟩),.pointer (some ⟨w.heap.size,0,none⟩),.int .u64 130]) (w.alloc (.cells #[.int .i64 n] 53)):=by kernel_rfl
theorem rlmA (z:Sem Value) (f:TypeId→Addr→Nat→Nat→Sem Value) (v:Value):ReflectliteValue.method z f #[v]=(do match ←ReflectliteValue.parts v with|none=>z|some (t,a,fl)=>f t a fl (fl%32)):=rfl
theorem asPartsPE (a:Addr) (w:World):(ReflectliteValue.parts (.agg #[.pointer (some ⟨4,121,none⟩),.pointer (some a),.int .u64 150])).run Tryz.prog w=.ok (some (121,a,150)) w:=by kernel_rfl
theorem asIsNilPE (a p:Addr) (W:World) (ha:W.cell? a=some (.pointer (some p))):
  (ReflectliteValue.method (ReflectliteValue.valueError "reflectlite.Value.IsNil" 0) ReflectliteValue.isNil #[.agg #[.pointer (some ⟨4,121,none⟩),.pointer (some a),.int .u64 150]]).run Tryz.prog W=.ok (.bool false) W:=by
 rw [rlmA]
 simp only [Sem.run_bind,asPartsPE,Result.andThen]
 simp [ReflectliteValue.isNil,loadVar,isAgg,underlying,Tryz.underlying121,ha,Result.andThen]
end Go.Proofs.YtfebcajheojodaaGreatDoor
end
section
namespace Go.Proofs.YtfebcajheojodaaGreatDoor
open Go Go.RowKit Go.Extern.Stop Go.Stop Go.Extern
theorem asElemOfPE (w:World):(Rtype.elem? 121).run Tryz.prog w=.ok (some 53) w:=by kernel_rfl
theorem asMkE (p:Addr) (w:World):(ReflectliteValue.mk 53 p ReflectliteValue.flagAddr).run Tryz.prog w=.ok (.agg #[.pointer (some ⟨4,53,none⟩),.pointer (some p),.int .u64 386]) w:=by kernel_rfl
theorem asElemVPE (a p:Addr) (W:World) (ha:W.cell? a=some (.pointer (some p))):
  (ReflectliteValue.method (ReflectliteValue.valueError "reflectlite.Value.Elem" 0) ReflectliteValue.elem #[.agg #[.pointer (some ⟨4,121,none⟩),.pointer (some a),.int .u64 150]]).run Tryz.prog W
   =.ok (.agg #[.pointer (some ⟨4,53,none⟩),.pointer (some p),.int .u64 386]) W:=by
 rw [rlmA]
 simp only [Sem.run_bind,asPartsPE,Result.andThen]
 simp [ReflectliteValue.elem,loadVar,isAgg,underlying,Tryz.underlying121,ha,Result.andThen,asElemOfPE,asMkE]
theorem rlsA (v x:Value):ReflectliteValue.set #[v,x]=(do
  let (some (dst,a,fl),some (src,b,_)):=(←ReflectliteValue.parts v,←ReflectliteValue.parts x)
   |unsupported (.noEntry "extern/(internal/reflectlite.Value).Set.zeroValue")
  if fl / ReflectliteValue.flagAddr%2==0 then unsupported (.noEntry "extern/(internal/reflectlite.Value).Set.unaddressable")
  let val ←loadVar src b
  if ←Rtype.directlyAssignable dst src then storeVar dst a val
  else if ←Rtype.implements dst src then
   if (←Rtype.kind src)==20 then
    match val with
    |.nilIface=>unsupported (.noEntry "extern/reflectlite: a nil value of one interface type handed on as a value of another")
    |_=>storeVar dst a val
   else storeVar dst a (.iface src val)
  else panicString ("reflectlite.Set: value of type " ++(←Rtype.spelt src)++ " is not assignable to type " ++(←Rtype.spelt dst))
  pure (.tuple #[])):=rfl
theorem asPartsEa (a:Addr) (w:World):(ReflectliteValue.parts (.agg #[.pointer (some ⟨4,53,none⟩),.pointer (some a),.int .u64 386])).run Tryz.prog w=.ok (some (53,a,386)) w:=by kernel_rfl
theorem asPartsE (a:Addr) (w:World):(ReflectliteValue.parts (.agg #[.pointer (some ⟨4,53,none⟩),.pointer (some a),.int .u64 130])).run Tryz.prog w=.ok (some (53,a,130)) w:=by kernel_rfl
theorem asDirectE (w:World):(Rtype.directlyAssignable 53 53).run Tryz.prog w=.ok true w:=by kernel_rfl
theorem asSetE (ta b:Addr) (n:Int) (old:Value) (W:World) (hb:W.cell? b=some (.int .i64 n)) (ht:W.cell? ta=some old) (hf:W.frozen? ta=false):
  (ReflectliteValue.set #[.agg #[.pointer (some ⟨4,53,none⟩),.pointer (some ta),.int .u64 386],.agg #[.pointer (some ⟨4,53,none⟩),.pointer (some b),.int .u64 130]]).run Tryz.prog W
   =.ok (.tuple #[]) (W.setCell ta (.int .i64 n)):=by
 rw [rlsA]
 simp only [Sem.run_bind,asPartsEa,asPartsE,Result.andThen]
 simp [ReflectliteValue.flagAddr,loadVar,isAgg,underlying,Tryz.underlying53,hb,Result.andThen,asDirectE,storeVar,Value.cells,storeCells,Addr.add]
 rw [run_store Tryz.prog W ta _ _ (by rfl)]
 simp [ht,hf]
def asW2 (w:World) (t:Addr):World:=(w.alloc (.cells #[.pointer (some t)] 121)).alloc (.cells #[.pointer (some ⟨4,121,none⟩),.pointer (some ⟨w.heap.size,0,none⟩),.int .u64 150] 182)
def asW3 (w:World) (t:Addr):World:=(asW2 w t).alloc (.cells #[.pointer (some ⟨4,121,none⟩),.pointer (some ⟨w.heap.size,0,none⟩),.int .u64 150] 182)
set_option maxHeartbeats 4000000 in
theorem as_hitE (n:Int) (t:Addr) (old:Value) (w:World) (hg:w.cell? ⟨0,0,none⟩=some (.iface 190 (.agg #[.pointer (some ⟨4,41,none⟩)]))) (ht0:w.cell? t=some old) (hf0:w.frozen? t=false):
  Calls Tryz.prog 49 #[.iface 53 (.int .i64 n),.iface 121 (.pointer (some t))] w fun ev w'=>ev=.returned (.bool true)∧Go.K.Chg [t.block] w w'∧w'.cell? t=some (.int .i64 n):=by
 have h6:=@run_callFunc_extern Tryz.prog 104 _ (fun args=>ReflectliteValue.unpack (args.getD 0 (.tuple #[]))) Tryz.func104 (by kernel_rfl) (by kernel_rfl) (by kernel_rfl) (by kernel_rfl)
 have h7:=@run_callFunc_extern Tryz.prog 105 _ (ReflectliteValue.methodAny (ReflectliteValue.valueError "reflectlite.Value.Type" 0) (fun t _ _ _=>ReflectliteType.toType t)) Tryz.func105 (by kernel_rfl) (by kernel_rfl) (by kernel_rfl) (by kernel_rfl)
 have h8:=@run_callFunc_extern Tryz.prog 106 _ (ReflectliteValue.method (ReflectliteValue.valueError "reflectlite.Value.IsNil" 0) ReflectliteValue.isNil) Tryz.func106 (by kernel_rfl) (by kernel_rfl) (by kernel_rfl) (by kernel_rfl)
 have h27:=@run_callFunc_extern Tryz.prog 254 _ (ReflectliteType.abiMethod fun t=>do pure (.int .u8 (←Rtype.kind t))) Tryz.func254 (by kernel_rfl) (by kernel_rfl) (by kernel_rfl) (by kernel_rfl)
 have h37:=@run_callFunc_extern Tryz.prog 268 _ (ReflectliteType.method ReflectliteType.elem) Tryz.func268 (by kernel_rfl) (by kernel_rfl) (by kernel_rfl) (by kernel_rfl)
 have h38:=@run_callFunc_extern Tryz.prog 269 _ (ReflectliteType.relation "Implements" ReflectliteType.implements_) Tryz.func269 (by kernel_rfl) (by kernel_rfl) (by kernel_rfl) (by kernel_rfl)
 have h10:=@run_callFunc_extern Tryz.prog 52 _ ReflectliteType.typeOf Tryz.func52 (by kernel_rfl) (by kernel_rfl) (by kernel_rfl) (by kernel_rfl)
 have h35:=@run_callFunc_extern Tryz.prog 266 _ (ReflectliteType.relation "AssignableTo" ReflectliteType.assignableTo) Tryz.func266 (by kernel_rfl) (by kernel_rfl) (by kernel_rfl) (by kernel_rfl)
 have h11:=@run_callFunc_extern Tryz.prog 152 _ (ReflectliteValue.method (ReflectliteValue.valueError "reflectlite.Value.Elem" 0) ReflectliteValue.elem) Tryz.func152 (by kernel_rfl) (by kernel_rfl) (by kernel_rfl) (by kernel_rfl)
 have h12:=@run_callFunc_extern Tryz.prog 153 _ ReflectliteValue.set Tryz.func153 (by kernel_rfl) (by kernel_rfl) (by kernel_rfl) (by kernel_rfl)
 have tO:=asTypeOfE
 have mA:=asMAssignable
 have aE:=asAssEE
 have vE:=asUnpackE
 have f6:=asUnpackPE
 have f7:=asTypePE
 have mK:=asMKind
 have mE:=asMElem
 have mI:=asMImplements
 have kP:=asKindPE
 have kE:=asKindE
 have eP:=asElemPE
 have iE:=asImplE
 have hlt:0<w.heap.size:=by
  rcases Nat.lt_or_ge 0 w.heap.size with h|h
  ·exact h
  ·simp [World.cell?,Array.getElem?_eq_none h] at hg
 have htl:t.block<w.heap.size:=by
  rcases Nat.lt_or_ge t.block w.heap.size with h|h
  ·exact h
  ·simp [World.cell?,Array.getElem?_eq_none h] at ht0
 have n8:=asIsNilPE ⟨w.heap.size,0,none⟩ t (asW2 w t) (by simp [asW2])
 have hg2:(asW2 w t).cell? ⟨0,0,none⟩=some (.iface 190 (.agg #[.pointer (some ⟨4,41,none⟩)])):=by
  unfold asW2
  rw [World.cell?_alloc_lt _ _ ⟨0,0,none⟩ (by first|(simp;done)|(simp;omega)),World.cell?_alloc_lt _ _ ⟨0,0,none⟩ hlt];exact hg
 have el:=asElemVPE ⟨w.heap.size,0,none⟩ t (asW3 w t) (by unfold asW3;rw [World.cell?_alloc_lt _ _ ⟨w.heap.size,0,none⟩ (by first|(simp [asW2];done)|(simp [asW2];omega))];simp [asW2])
 have st:=asSetE t ⟨w.heap.size+1+1+1,0,none⟩ n old ((asW3 w t).alloc (.cells #[.int .i64 n] 53))
  (by rw [World.cell?_alloc_at _ _ _ _ (by simp [asW3,asW2])];rfl)
  (by unfold asW3 asW2;rw [World.cell?_alloc_lt _ _ t (by simp;omega),World.cell?_alloc_lt _ _ t (by simp;omega),World.cell?_alloc_lt _ _ t (by simp;omega),World.cell?_alloc_lt _ _ t htl];exact ht0)
  (by unfold asW3 asW2;rw [World.frozen?_alloc_old _ _ t (by simp;omega),World.frozen?_alloc_old _ _ t (by simp;omega),World.frozen?_alloc_old _ _ t (by simp;omega),World.frozen?_alloc_old _ _ t (Nat.ne_of_lt htl)];exact hf0)
 unfold asW3 asW2 at el st
 unfold asW2 at n8 hg2
 go_enter Tryz.func49,Tryz.ntmps49
 go_wp2
 refine wp_loop_rounds 1 ?_
 rw [rounds_succ]
 go_wp2
 go_ret
 refine ⟨rfl,((((Go.K.Ext.alloc _ _).trans (Go.K.Ext.alloc _ _)).trans (Go.K.Ext.alloc _ _)).trans (Go.K.Ext.alloc _ _)).chg (Go.K.Chg.setCell _ t _),World.cell?_setCell_same _ _ _ (u:=old) ?_⟩
 rw [World.cell?_alloc_lt _ _ t (by simp;omega),World.cell?_alloc_lt _ _ t (by simp;omega),World.cell?_alloc_lt _ _ t (by simp;omega),World.cell?_alloc_lt _ _ t htl];exact ht0
end Go.Proofs.YtfebcajheojodaaGreatDoor
end
section
namespace Go.Proofs.YtfebcajheojodaaGreatDoor
open Go Go.RowKit Go.Extern.Stop Go.Stop Go.Extern
theorem noAsF (v:Value) (xT:TypeId) (w:World):(Instr.typeAssert (.iface 122 v) xT 238 true).run Tryz.prog w=.ok (.tuple #[.nilIface,.bool false]) w:=run_typeAssert_lacksB Tryz.underlying238 (by kernel_rfl) (by kernel_rfl) v xT w
theorem unwrapF (v:Value) (xT:TypeId) (w:World):(Instr.typeAssert (.iface 122 v) xT 195 true).run Tryz.prog w=.ok (.tuple #[.iface 122 v,.bool true]) w:=run_typeAssert_hasB Tryz.underlying195 (by kernel_rfl) v xT w
theorem asMUnwrap (v:Value) (w:World):(Go.method 437 122 v "Unwrap").run Tryz.prog w=.ok (261,v) w:=by kernel_rfl
theorem cell_al {w:World} {o:Obj} {a:Addr} {v:Value} (h:w.cell? a=some v):(w.alloc o).cell? a=some v:=by
 have hlt:a.block<w.heap.size:=Go.K.cell_lt h
 rw [World.cell?_alloc_lt _ _ a hlt];exact h
theorem froz_al {w:World} {o:Obj} {a:Addr} {v:Value} (h:w.cell? a=some v) (hf:w.frozen? a=false):(w.alloc o).frozen? a=false:=by
 have hlt:a.block<w.heap.size:=Go.K.cell_lt h
 rw [World.frozen?_alloc_old _ _ a (Nat.ne_of_lt hlt)];exact hf
set_option maxHeartbeats 8000000 in
set_option maxRecDepth 20000 in
theorem as_hitE1 (n:Int) (b1:Nat) (t:Addr) (old:Value) (w:World) (hg:w.cell? ⟨0,0,none⟩=some (.iface 190 (.agg #[.pointer (some ⟨4,41,none⟩)]))) (hc1:w.cell? ⟨b1,1,none⟩=some (.iface 53 (.int .i64 n))) (ht0:w.cell? t=some old) (hf0:w.frozen? t=false):
  Calls Tryz.prog 49 #[.iface 122 (.pointer (some ⟨b1,0,none⟩)),.iface 121 (.pointer (some t))] w fun ev w'=>ev=.returned (.bool true)∧Go.K.Chg [t.block] w w'∧w'.cell? t=some (.int .i64 n):=by
 have h6:=@run_callFunc_extern Tryz.prog 104 _ (fun args=>ReflectliteValue.unpack (args.getD 0 (.tuple #[]))) Tryz.func104 (by kernel_rfl) (by kernel_rfl) (by kernel_rfl) (by kernel_rfl)
 have h7:=@run_callFunc_extern Tryz.prog 105 _ (ReflectliteValue.methodAny (ReflectliteValue.valueError "reflectlite.Value.Type" 0) (fun t _ _ _=>ReflectliteType.toType t)) Tryz.func105 (by kernel_rfl) (by kernel_rfl) (by kernel_rfl) (by kernel_rfl)
 have h8:=@run_callFunc_extern Tryz.prog 106 _ (ReflectliteValue.method (ReflectliteValue.valueError "reflectlite.Value.IsNil" 0) ReflectliteValue.isNil) Tryz.func106 (by kernel_rfl) (by kernel_rfl) (by kernel_rfl) (by kernel_rfl)
 have h27:=@run_callFunc_extern Tryz.prog 254 _ (ReflectliteType.abiMethod fun t=>do pure (.int .u8 (←Rtype.kind t))) Tryz.func254 (by kernel_rfl) (by kernel_rfl) (by kernel_rfl) (by kernel_rfl)
 have h37:=@run_callFunc_extern Tryz.prog 268 _ (ReflectliteType.method ReflectliteType.elem) Tryz.func268 (by kernel_rfl) (by kernel_rfl) (by kernel_rfl) (by kernel_rfl)
 have h38:=@run_callFunc_extern Tryz.prog 269 _ (ReflectliteType.relation "Implements" ReflectliteType.implements_) Tryz.func269 (by kernel_rfl) (by kernel_rfl) (by kernel_rfl) (by kernel_rfl)
 have h10:=@run_callFunc_extern Tryz.prog 52 _ ReflectliteType.typeOf Tryz.func52 (by kernel_rfl) (by kernel_rfl) (by kernel_rfl) (by kernel_rfl)
 have h35:=@run_callFunc_extern Tryz.prog 266 _ (ReflectliteType.relation "AssignableTo" ReflectliteType.assignableTo) Tryz.func266 (by kernel_rfl) (by kernel_rfl) (by kernel_rfl) (by kernel_rfl)
 have h11:=@run_callFunc_extern Tryz.prog 152 _ (ReflectliteValue.method (ReflectliteValue.valueError "reflectlite.Value.Elem" 0) ReflectliteValue.elem) Tryz.func152 (by kernel_rfl) (by kernel_rfl) (by kernel_rfl) (by kernel_rfl)
 have h12:=@run_callFunc_extern Tryz.prog 153 _ ReflectliteValue.set Tryz.func153 (by kernel_rfl) (by kernel_rfl) (by kernel_rfl) (by kernel_rfl)
 have tO:=asTypeOfE
 have tF:=asTypeOfF
 have mA:=asMAssignable
 have aE:=asAssEE
 have aF:=asAssFE
 have nF:=noAsF
 have uF:=unwrapF
 have mU:=asMUnwrap
 have vE:=asUnpackE
 have f6:=asUnpackPE
 have f7:=asTypePE
 have mK:=asMKind
 have mE:=asMElem
 have mI:=asMImplements
 have kP:=asKindPE
 have kE:=asKindE
 have eP:=asElemPE
 have iE:=asImplE
 have n8:=asIsNilPE ⟨w.heap.size,0,none⟩ t (asW2 w t) (by simp [asW2])
 have hg2:(asW2 w t).cell? ⟨0,0,none⟩=_:=cell_al (cell_al hg)
 have el:=asElemVPE ⟨w.heap.size,0,none⟩ t (asW3 w t) (cell_al (by simp [asW2]))
 have hu3:(asW3 w t).cell? ⟨b1,1,none⟩=_:=cell_al (cell_al (cell_al hc1))
 have st:=asSetE t ⟨w.heap.size+1+1+1,0,none⟩ n old ((asW3 w t).alloc (.cells #[.int .i64 n] 53))
  (by rw [World.cell?_alloc_at _ _ _ _ (by simp [asW3,asW2])];rfl) (cell_al (cell_al (cell_al (cell_al ht0)))) (froz_al (cell_al (cell_al (cell_al ht0))) (froz_al (cell_al (cell_al ht0)) (froz_al (cell_al ht0) (froz_al ht0 hf0))))
 unfold asW3 asW2 at el st hu3
 unfold asW2 at n8 hg2
 go_enter Tryz.func49,Tryz.ntmps49
 go_wp2
 refine wp_loop_rounds 2 ?_
 rw [rounds_succ]
 go_wp2
 rw [rounds_succ]
 go_wp2
 go_ret
 refine ⟨rfl,((((Go.K.Ext.alloc _ _).trans (Go.K.Ext.alloc _ _)).trans (Go.K.Ext.alloc _ _)).trans (Go.K.Ext.alloc _ _)).chg (Go.K.Chg.setCell _ t _),World.cell?_setCell_same _ _ _ (u:=old) (cell_al (cell_al (cell_al (cell_al ht0))))⟩
end Go.Proofs.YtfebcajheojodaaGreatDoor
end
section
namespace Go.Proofs.YtfebcajheojodaaGreatDoor
open Go Go.RowKit Go.Extern.Stop Go.Stop Go.Extern
set_option maxHeartbeats 8000000 in
set_option maxRecDepth 20000 in
theorem as_hitE2 (n:Int) (b1 b2:Nat) (t:Addr) (old:Value) (w:World) (hg:w.cell? ⟨0,0,none⟩=some (.iface 190 (.agg #[.pointer (some ⟨4,41,none⟩)]))) (hc1:w.cell? ⟨b1,1,none⟩=some (.iface 122 (.pointer (some ⟨b2,0,none⟩)))) (hc2:w.cell? ⟨b2,1,none⟩=some (.iface 53 (.int .i64 n))) (ht0:w.cell? t=some old) (hf0:w.frozen? t=false):
  Calls Tryz.prog 49 #[.iface 122 (.pointer (some ⟨b1,0,none⟩)),.iface 121 (.pointer (some t))] w fun ev w'=>ev=.returned (.bool true)∧Go.K.Chg [t.block] w w'∧w'.cell? t=some (.int .i64 n):=by
 have h6:=@run_callFunc_extern Tryz.prog 104 _ (fun args=>ReflectliteValue.unpack (args.getD 0 (.tuple #[]))) Tryz.func104 (by kernel_rfl) (by kernel_rfl) (by kernel_rfl) (by kernel_rfl)
 have h7:=@run_callFunc_extern Tryz.prog 105 _ (ReflectliteValue.methodAny (ReflectliteValue.valueError "reflectlite.Value.Type" 0) (fun t _ _ _=>ReflectliteType.toType t)) Tryz.func105 (by kernel_rfl) (by kernel_rfl) (by kernel_rfl) (by kernel_rfl)
 have h8:=@run_callFunc_extern Tryz.prog 106 _ (ReflectliteValue.method (ReflectliteValue.valueError "reflectlite.Value.IsNil" 0) ReflectliteValue.isNil) Tryz.func106 (by kernel_rfl) (by kernel_rfl) (by kernel_rfl) (by kernel_rfl)
 have h27:=@run_callFunc_extern Tryz.prog 254 _ (ReflectliteType.abiMethod fun t=>do pure (.int .u8 (←Rtype.kind t))) Tryz.func254 (by kernel_rfl) (by kernel_rfl) (by kernel_rfl) (by kernel_rfl)
 have h37:=@run_callFunc_extern Tryz.prog 268 _ (ReflectliteType.method ReflectliteType.elem) Tryz.func268 (by kernel_rfl) (by kernel_rfl) (by kernel_rfl) (by kernel_rfl)
 have h38:=@run_callFunc_extern Tryz.prog 269 _ (ReflectliteType.relation "Implements" ReflectliteType.implements_) Tryz.func269 (by kernel_rfl) (by kernel_rfl) (by kernel_rfl) (by kernel_rfl)
 have h10:=@run_callFunc_extern Tryz.prog 52 _ ReflectliteType.typeOf Tryz.func52 (by kernel_rfl) (by kernel_rfl) (by kernel_rfl) (by kernel_rfl)
 have h35:=@run_callFunc_extern Tryz.prog 266 _ (ReflectliteType.relation "AssignableTo" ReflectliteType.assignableTo) Tryz.func266 (by kernel_rfl) (by kernel_rfl) (by kernel_rfl) (by kernel_rfl)
 have h11:=@run_callFunc_extern Tryz.prog 152 _ (ReflectliteValue.method (ReflectliteValue.valueError "reflectlite.Value.Elem" 0) ReflectliteValue.elem) Tryz.func152 (by kernel_rfl) (by kernel_rfl) (by kernel_rfl) (by kernel_rfl)
 have h12:=@run_callFunc_extern Tryz.prog 153 _ ReflectliteValue.set Tryz.func153 (by kernel_rfl) (by kernel_rfl) (by kernel_rfl) (by kernel_rfl)
 have tO:=asTypeOfE
 have tF:=asTypeOfF
 have mA:=asMAssignable
 have aE:=asAssEE
 have aF:=asAssFE
 have nF:=noAsF
 have uF:=unwrapF
 have mU:=asMUnwrap
 have vE:=asUnpackE
 have f6:=asUnpackPE
 have f7:=asTypePE
 have mK:=asMKind
 have mE:=asMElem
 have mI:=asMImplements
 have kP:=asKindPE
 have kE:=asKindE
 have eP:=asElemPE
 have iE:=asImplE
 have n8:=asIsNilPE ⟨w.heap.size,0,none⟩ t (asW2 w t) (by simp [asW2])
 have hg2:(asW2 w t).cell? ⟨0,0,none⟩=_:=cell_al (cell_al hg)
 have el:=asElemVPE ⟨w.heap.size,0,none⟩ t (asW3 w t) (cell_al (by simp [asW2]))
 have hu4:(asW3 w t).cell? ⟨b2,1,none⟩=_:=cell_al (cell_al (cell_al hc2))
 have hu3:(asW3 w t).cell? ⟨b1,1,none⟩=_:=cell_al (cell_al (cell_al hc1))
 have st:=asSetE t ⟨w.heap.size+1+1+1,0,none⟩ n old ((asW3 w t).alloc (.cells #[.int .i64 n] 53))
  (by rw [World.cell?_alloc_at _ _ _ _ (by simp [asW3,asW2])];rfl) (cell_al (cell_al (cell_al (cell_al ht0)))) (froz_al (cell_al (cell_al (cell_al ht0))) (froz_al (cell_al (cell_al ht0)) (froz_al (cell_al ht0) (froz_al ht0 hf0))))
 unfold asW3 asW2 at el st hu3 hu4
 unfold asW2 at n8 hg2
 go_enter Tryz.func49,Tryz.ntmps49
 go_wp2
 refine wp_loop_rounds 3 ?_
 rw [rounds_succ]
 go_wp2
 rw [rounds_succ]
 go_wp2
 rw [rounds_succ]
 go_wp2
 go_ret
 refine ⟨rfl,((((Go.K.Ext.alloc _ _).trans (Go.K.Ext.alloc _ _)).trans (Go.K.Ext.alloc _ _)).trans (Go.K.Ext.alloc _ _)).chg (Go.K.Chg.setCell _ t _),World.cell?_setCell_same _ _ _ (u:=old) (cell_al (cell_al (cell_al (cell_al ht0))))⟩
end Go.Proofs.YtfebcajheojodaaGreatDoor
end
