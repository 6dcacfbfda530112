/- Contracts: rates, and how they are compared, by the program  -/
import Derived.Test.YteceapipdhnhdaaGreatDoorNa29
set_option linter.unusedVariables false
set_option linter.unusedSimpArgs false
namespace Go.Proofs.YteceapipdhnhdaaGreatDoor
section
open Go Go.K
theorem aGl (x y:Nat) (hx:x<18446744073709551616) (hy:y<18446744073709551616) (w:World):K.Spec Tryz.prog F.math_bits_Mul64 [.int .u64 (x:Nat),.int .u64 (y:Nat)] w fun v w'=>v=.tuple #[.int .u64 ((x*y / 18446744073709551616:Nat):Int),.int .u64 ((x*y%18446744073709551616:Nat):Int)]∧Ext w w':=
 (Tryz.bits_Mul64 x y hx hy w).mono fun e w' ⟨he,hw⟩=>⟨_,he,rfl,by rw [hw];exact Ext.refl _⟩
attribute [local irreducible] aH aM aY KOp.wp K.Spec u32 leS vnS str aP cM
theorem aYd (f s:Int) (w:World):K.Spec Tryz.prog F.amount_priced [.int .i64 f,.int .i64 s] w fun r w'=>r=.bool (cD f s)∧Ext w w':=by
 refine aMz rfl ?_
 unfold aBe
 refine oy ?_
 repeat' (first|(first|refine go2 ?_|fail)|refine zK rfl (fun h=>?_) (fun h=>?_)|refine zJ rfl (fun h=>?_) (fun h=>?_))
 all_goals refine aA rfl ⟨congrArg Value.bool ?_,by exact fx⟩
 ·unfold cD
  rw [‹bT f=true›,Bool.true_and]
  exact decide_eq_decide.2 (by have:=of_decide_eq_true h;omega)
 ·unfold cD
  rw [dFa (by have:=of_decide_eq_false h;omega),Bool.and_false]
 ·unfold cD
  rw [h];rfl
theorem aVd (n:Int) (w:World):K.Spec Tryz.prog F.cmp_isNaN_uint64 [.int .u64 n] w fun v w'=>v=.bool false∧Ext w w':=by
 refine aFn rfl ?_
 unfold tL
 refine oy ?_
 repeat' (first|refine go2 ?_|fail)
 exact aA rfl ⟨congrArg Value.bool (by simp),Ext.refl _⟩
theorem aOz (n m:Nat) (w:World):K.Spec Tryz.prog F.cmp_Compare_uint64 [.int .u64 (n:Nat),.int .u64 (m:Nat)] w fun v w'=>v=.int .i64 (aF6 n m)∧Ext w w':=by
 refine aDl rfl ?_
 unfold qL
 refine oy ?_
 repeat' (first|(first|refine go2 ?_|fail)|(refine zC rfl (aVd _ _) ?_;rintro _ _ ⟨rfl,_⟩)|refine zL rfl (fun h=>?_) (fun h=>?_))
 all_goals refine aA rfl ⟨congrArg (Value.int .i64) ?_,by exact fx⟩
 ·exact (bL6 (by omega)).symm
 ·exact (bM5 (by omega)).symm
 ·unfold aF6;rw [if_neg (by omega),if_neg (by omega)]
def aCl:Enc Int:=⟨fun n=> [.int .i64 n],1,fun _=>rfl,by decide,by intro x v hv;simp at hv;subst hv;rfl⟩
theorem bNa (a b:Int) (v:Value) (w:World) (hs:SlE aCl w v [a,b]):K.Spec Tryz.prog F.cmp_Or_int [v] w fun v w'=>v=.int .i64 (orU a b)∧Ext w w':=by
 refine aHx rfl ?_
 unfold aAp
 refine oy ?_
 repeat' (first|(first|refine go2 ?_|fail)|refine zL rfl (fun h=>?_) (fun h=>?_)|refine bL rfl hs ?_|(refine aJ (fun (i:Nat) w'=>Ext w w'∧i≤2∧(0<i→a=0)∧(1<i→b=0)) (fun i=> [(3,.int .i64 0),(6,v),(7,.int .i64 2),(8,.int .i64 i)]) (fun i=>2 - i) 0 ⟨rfl,rfl,rfl,rfl,trivial⟩ ⟨Ext.refl _,by omega,by omega,by omega⟩ ?_;rintro i ρ w1 ⟨x1,hi,h0,h1⟩)|refine aT (E:=aCl) (l:= [a,b]) rfl rfl (hs.ext x1) rfl (by simp;omega) (fun ad r1=>?_)|refine zN rfl (fun h2=>?_) (fun h2=>?_))
 ·refine aA rfl ⟨congrArg (Value.int .i64) ?_,x1⟩
  rcases (show i=0∨i=1 by omega) with rfl|rfl
  ·have h3:¬a=0:=h2
   show a=_
   unfold orU;rw [if_neg h3]
  ·show b=_
   unfold orU;rw [if_pos (h0 (by omega))]
 ·have h3:(i=0→a=0)∧(i=1→b=0):=by
   constructor
   ·rintro rfl;exact h2
   ·rintro rfl;exact h2
  exact ⟨i+1,⟨rfl,rfl,rfl,rfl,trivial⟩,⟨x1,by omega,fun _=>by rcases Nat.eq_zero_or_pos i with e|e;exact h3.1 e;exact h0 e,fun _=>h3.2 (by omega)⟩,by omega⟩
 ·have:i=2:=by omega
  subst this
  exact aA rfl ⟨congrArg (Value.int .i64) (by unfold orU;rw [if_pos (h0 (by omega)),h1 (by omega)]),x1⟩
theorem aP7 {n:Nat} (h:n≤2100000000000000):IntKind.u64.wrap (n:Int)=(n:Nat):=by
 have e:∀m:Int,IntKind.u64.wrap m=m%18446744073709551616:=fun _=>rfl
 rw [e];omega
theorem lM {f s:Int} {b:Bool} (h:cD f s=b) (w:World):K.Spec Tryz.prog F.amount_priced [.int .i64 f,.int .i64 s] w fun r w'=>r=.bool b∧Ext w w':=by
 subst h;exact aYd f s w
theorem aHb (f s o i:Int) (w:World):K.Spec Tryz.prog F.amount_Compare [.int .i64 f,.int .i64 s,.int .i64 o,.int .i64 i] w fun r w'=>r=.int .i64 (aDk f s o i)∧Ext w w':=by
 cases h1:cD f s with
 |true=>
  cases h2:cD o i with
  |true=>
   obtain ⟨F',S',rfl,rfl,b1,b2,b3⟩:=qR h1
   obtain ⟨O',I',rfl,rfl,c1,c2,c3⟩:=qR h2
   rw [bJh h1 h2,←bJ5]
   refine pQ rfl ?_
   unfold kM
   refine oy ?_
   repeat' (first|refine aL (d:=some 25) (.int .u64 (F':Nat)) rfl (congrArg (fun n=>some (Value.int .u64 n)) (aP7 b1)) ?_|refine aL (d:=some 27) (.int .u64 (I':Nat)) rfl (congrArg (fun n=>some (Value.int .u64 n)) (aP7 (by omega))) ?_|refine aL (d:=some 33) (.int .u64 (O':Nat)) rfl (congrArg (fun n=>some (Value.int .u64 n)) (aP7 c1)) ?_|refine aL (d:=some 35) (.int .u64 (S':Nat)) rfl (congrArg (fun n=>some (Value.int .u64 n)) (aP7 (by omega))) ?_|(first|refine go2 ?_|fail)|(refine zC (d:=some 15) rfl (lM h1 _) ?_;rintro _ w1 ⟨rfl,x1⟩)|(refine zC (d:=some 20) rfl (lM h2 _) ?_;rintro _ w2 ⟨rfl,x2⟩)|(refine zC (d:=some 28) rfl (aGl F' I' (by omega) (by omega) _) ?_;rintro _ w3 ⟨rfl,x3⟩)|(refine zC (d:=some 36) rfl (aGl O' S' (by omega) (by omega) _) ?_;rintro _ w4 ⟨rfl,x4⟩)|(refine zC (d:=some 41) rfl (aOz _ _ _) ?_;rintro _ w5 ⟨rfl,x5⟩)|(refine zC (d:=some 44) rfl (aOz _ _ _) ?_;rintro _ w6 ⟨rfl,x6⟩)|(refine zI (d:=some 45) (cs:= [.int .i64 (aF6 (F'*I' / 18446744073709551616) (O'*S' / 18446744073709551616)),.int .i64 (aF6 (F'*I'%18446744073709551616) (O'*S'%18446744073709551616))]) rfl (fun b w7 x7 a7 hb=>?_);have s7:=SlE.new (E:=aCl) (l:= [aF6 (F'*I' / 18446744073709551616) (O'*S' / 18446744073709551616),aF6 (F'*I'%18446744073709551616) (O'*S'%18446744073709551616)]) a7 rfl (Nat.le_refl _))|(refine zC (d:=some 46) rfl (bNa _ _ _ _ s7) ?_;rintro _ w8 ⟨rfl,x8⟩))
   exact aA rfl ⟨rfl,by exact fx⟩
  |false=>
   rw [bE3 (.inr h2)]
   refine pQ rfl ?_
   unfold kM
   refine oy ?_
   repeat' (first|(first|refine go2 ?_|fail)|(refine zC (d:=some 15) rfl (lM h1 _) ?_;rintro _ w1 ⟨rfl,x1⟩)|(refine zC (d:=some 20) rfl (lM h2 _) ?_;rintro _ w2 ⟨rfl,x2⟩))
   exact aA rfl ⟨rfl,by exact fx⟩
 |false=>
  rw [bE3 (.inl h1)]
  refine pQ rfl ?_
  unfold kM
  refine oy ?_
  repeat' (first|(first|refine go2 ?_|fail)|(refine zC (d:=some 15) rfl (lM h1 _) ?_;rintro _ w1 ⟨rfl,x1⟩))
  exact aA rfl ⟨rfl,by exact fx⟩
theorem aSr {F' S':Nat} (h:cD (F':Nat) (S':Nat)=true):yN (F':Nat) (S':Nat)=((F'*1000 / S':Nat):Int):=by
 unfold yN;rw [if_pos h];rfl
theorem bGx (f s:Int) (w:World):K.Spec Tryz.prog F.amount_Rate [.int .i64 f,.int .i64 s] w fun r w'=>r=.tuple #[.int .i64 (yN f s),.int .i64 (if cD f s then 0 else 3)]∧Ext w w':=by
 cases h1:cD f s with
 |true=>
  obtain ⟨F',S',rfl,rfl,b1,b2,b3⟩:=qR h1
  rw [aSr h1]
  refine aEr rfl ?_
  unfold wT
  refine oy ?_
  repeat' (first|refine aL (d:=some 11) (.int .i64 ((F'*1000:Nat):Int)) rfl (congrArg (fun n=>some (Value.int .i64 n)) (IntWalk.i64_in _ (by omega))) ?_|refine bBh (d:=some 13) (n:=F'*1000) (m:=S') rfl rfl (by omega) (by omega) ?_|(first|refine go2 ?_|fail)|(refine zC (d:=some 8) rfl (lM h1 _) ?_;rintro _ w1 ⟨rfl,x1⟩))
  exact aA rfl ⟨rfl,by exact fx⟩
 |false=>
  have e:yN f s=0:=by unfold yN;rw [h1];rfl
  rw [e]
  refine aEr rfl ?_
  unfold wT
  refine oy ?_
  repeat' (first|(first|refine go2 ?_|fail)|(refine zC (d:=some 8) rfl (lM h1 _) ?_;rintro _ w1 ⟨rfl,x1⟩))
  exact aA rfl ⟨rfl,by exact fx⟩
end
section
open Go Go.K
attribute [local irreducible] aH aM aY KOp.wp K.Spec u32 leS vnS str aP cM bK idT aQ aG aN idN bG cL cB bQ cF fM dC bV aO kZ fL eT eE aDk yN jA
theorem iF (l:List Ent) (m:List Bool):(aO l m).length≤l.length:=by
 have:=(jG l m).length_le
 simpa using this
theorem aPo {g:Nat} {M:List Nat} {l:List Ent} (id:ByteArray) (w:World) (hG:GrR w g M l) (hM:∀b∈M,b<w.heap.size) (hl:l.length≤1000):
  K.Spec Tryz.prog F.trim_Score [.pointer (some ⟨g,0,none⟩),.string id] w fun r w'=>r=.tuple #[.int .i64 (wY l id).1,.int .i64 (wY l id).2]∧Ext w w':=by
 have hnd:=hG.nodup
 have hlen:(aO l (bV l id)).length≤4000:=nTr (iF l _) (by omega)
 refine aUr rfl ?_
 unfold aJg
 refine oy ?_
 repeat' (first|(first|refine go2 ?_|fail)|(refine zC rfl (nS (M:=M) id _ (hG.ext (by exact fx)) (fun b hb=>nLt (hM b hb) (Ext.size (by exact fx)))) ?_;rintro v5 w5 ⟨ds,rfl,e5,x5⟩;obtain ⟨iv,ov,rfl,o1,o2,o3⟩:=e5;have i1:=o1.one;have i2:=o2.one)|refine zE (fun _=>rfl) rfl rfl (by simp [bE,i1,i2];exact ⟨rfl,rfl,rfl,rfl,rfl⟩) (fun b6 w6 x6 a6 (r6:Row w6 ⟨b6,0,none⟩ (bE (dI l id) iv ov)) hb6=>?_)|refine zM rfl (fun h=>?_) (fun h=>?_)|refine zN rfl (fun h=>?_) (fun h=>?_)|refine zL rfl (fun h=>?_) (fun h=>?_)|(refine zC rfl (vJ (M:=M) (l:=l) id _ (hG.ext (by exact fx)) (fun b hb=>nLt (hM b hb) (Ext.size (by exact fx))) hl) ?_;rintro vb w7 ⟨ob,x7⟩;have sb:=ob.sl)|(refine zC rfl (aKv (M:=M) (l:=l) (ids:=aO l (bV l id)) _ (hG.ext (by exact fx)) (fun b hb=>nLt (hM b hb) (Ext.size (by exact fx))) (SlE.ext (by exact fx) sb) hlen) ?_;rintro _ w8 ⟨rfl,x8⟩)|(refine zC rfl (aHb _ _ _ _ _) ?_;rintro _ w9 ⟨rfl,x9⟩))
 ·have hh:iM l id=false:=by simpa using h
  have e:wY l id=(0,0):=by unfold wY;rw [if_neg (by rw [hh];decide)]
  rw [e]
  exact aA rfl ⟨rfl,by exact fx⟩
 ·have hh:iM l id=true:=by simpa using ‹(!iM l id)=false›
  rw [aPf hnd hh,if_pos (of_decide_eq_true h)]
  exact aA rfl ⟨rfl,by exact fx⟩
 ·have hh:iM l id=true:=by simpa using ‹(!iM l id)=false›
  rw [aPf hnd hh,if_neg (of_decide_eq_false h)]
  exact aA rfl ⟨rfl,by exact fx⟩
theorem GrR.id32 {w:World} {g:Nat} {M:List Nat} {l:List Ent} (hG:GrR w g M l):∀x∈l,x.id.size=32:=fun x hx=>by rw [(hG.ok x hx).id];exact bLn _
theorem bDy {g:Nat} {M:List Nat} {l:List Ent} (w:World) (hG:GrR w g M l) (hM:∀b∈M,b<w.heap.size) (hl:l.length≤1000):
  K.Spec Tryz.prog F.trim_total [.pointer (some ⟨g,0,none⟩)] w fun r w'=>r=.int .i64 (jA l)∧Ext w w':=by
 have hfit:∀x∈l,0≤x.size∧x.size≤(100000000000:Nat):=fun x hx=>(aKt (hG.ok x hx)).2
 have h00:jA (l.take 0)=0:=by rw [List.take_zero];unfold jA;rfl
 refine aUa rfl ?_
 unfold aHe
 refine oy ?_
 repeat' (first|(first|refine go2 ?_|fail)|(refine zC (d:=some 7) rfl (sZ (M:=M) (l:=l) _ (hG.ext (by exact fx)) hM (by omega)) ?_;rintro va w2 ⟨oa,x2⟩;have sa:=oa.slB hM)|refine zG (E:=eD) (M:=M) (l:=l) rfl (SlR.ext sa (by exact fx)) ?_|refine zL rfl (fun h=>?_) (fun h=>?_)|(refine aJ (fun (i:Nat) w'=>Ext w2 w'∧i≤l.length) (fun i=> [(0,.pointer (some ⟨g,0,none⟩)),(3,.int .i64 (jA (l.take i))),(7,va),(8,.int .i64 (l.length:Nat)),(9,.int .i64 i)]) (fun i=>l.length - i) 0 ⟨rfl,by rw [h00];rfl,rfl,rfl,rfl,trivial⟩ ⟨Ext.refl _,Nat.zero_le _⟩ ?_;rintro i ρ w3 ⟨x3,hi⟩;have b1:=aK3 (c:=100000000000) (l:=l.take i) (fun x hx=>hfit x (List.mem_of_mem_take hx));have b2:(l.take i).length≤l.length:=(by rw [List.length_take];omega))|(have hil:i<l.length:=(by omega);have b3:=hfit _ (gMe hil);refine aR (d:=some 11) (E:=eD) (M:=M) rfl rfl (n:=i) (l:=l) (SlR.ext sa (by exact fx)) rfl hil (fun ad cs r4 he=>?_);obtain ⟨iv,ov,rfl,q1,q2,q3⟩:=he;have i1:=q1.one;have i2:=q2.one)|refine zE (d':=5) (fun _=>rfl) rfl rfl (by simp [bE,i1,i2];exact ⟨rfl,rfl,rfl,rfl,rfl⟩) (fun b6 w6 x6 a6 (r6:Row w6 ⟨b6,0,none⟩ (bE l[i] iv ov)) hb6=>?_))
 ·refine ⟨i+1,⟨rfl,?_,rfl,rfl,rfl,trivial⟩,⟨by exact fx,by omega⟩,by omega⟩
  show _=Value.int .i64 (jA (l.take (i+1)))
  rw [bC0 hil];rfl
 ·rw [tLe (by omega)]
  exact aA rfl ⟨rfl,x2.trans x3⟩
set_option maxHeartbeats 1000000 in
theorem bBu {g:Nat} {M:List Nat} {l:List Ent} (w:World) (hG:GrR w g M l) (hM:∀b∈M,b<w.heap.size) (hl:l.length≤1000):
  K.Spec Tryz.prog F.trim_Worst [.pointer (some ⟨g,0,none⟩)] w fun r w'=>r=.tuple #[.string (wS l l.length),.bool (decide (0<l.length))]∧Ext w w':=by
 have hnd:=hG.nodup
 have hid:=hG.id32
 have hws:(!decide (wS l l.length=⟨#[]⟩))=decide (0<l.length):=by
  by_cases h0:0<l.length
  ·rw [dTr h0,dFa (bOp hid h0 (Nat.le_refl _))];rfl
  ·rw [dFa h0,dTr (by unfold wS;rw [if_pos (by omega)])];rfl
 rw [←hws]
 refine aVq rfl ?_
 unfold aI7
 refine oy ?_
 repeat' (first|(first|refine go2 ?_|fail)|(refine zC (d:=some 12) rfl (sZ (M:=M) (l:=l) _ (hG.ext (by exact fx)) hM (by omega)) ?_;rintro va w2 ⟨oa,x2⟩;have sa:=oa.slB hM)|refine zG (E:=eD) (M:=M) (l:=l) rfl (SlR.ext sa (by exact fx)) ?_|refine zL rfl (fun h=>?_) (fun h=>?_)|refine zJ rfl (fun h=>?_) (fun h=>?_)|(refine aJ (fun (i:Nat) w'=>Ext w2 w'∧i≤l.length) (fun i=> [(0,.pointer (some ⟨g,0,none⟩)),(4,.string (wS l i)),(5,.int .i64 (wP l i).1),(6,.int .i64 (wP l i).2),(12,va),(13,.int .i64 (l.length:Nat)),(14,.int .i64 i)]) (fun i=>l.length - i) 0 ⟨rfl,rfl,rfl,rfl,rfl,rfl,rfl,trivial⟩ ⟨Ext.refl _,Nat.zero_le _⟩ ?_;rintro i ρ w3 ⟨x3,hi⟩)|(have hil:i<l.length:=(by omega);refine aR (d:=some 16) (E:=eD) (M:=M) rfl rfl (n:=i) (l:=l) (SlR.ext sa (by exact fx)) rfl hil (fun ad cs r4 he=>?_);obtain ⟨iv,ov,rfl,q1,q2,q3⟩:=he;have i1:=q1.one;have i2:=q2.one)|refine zE (d':=8) (fun _=>rfl) rfl rfl (by simp [bE,i1,i2];exact ⟨rfl,rfl,rfl,rfl,rfl⟩) (fun b6 w6 x6 a6 (r6:Row w6 ⟨b6,0,none⟩ (bE l[i] iv ov)) hb6=>?_)|(refine zC (d:=some 22) rfl (aPo (M:=M) (l:=l) l[i].id _ (hG.ext (by exact fx)) (fun b hb=>nLt (hM b hb) (Ext.size (by exact fx))) hl) ?_;rintro _ w7 ⟨rfl,x7⟩;rw [aPt hnd (gMe hil)])|(refine zC (d:=some 32) rfl (aHb _ _ _ _ _) ?_;rintro _ w8 ⟨rfl,x8⟩))
 ·obtain ⟨-,e1,e2⟩:=bI0 hid hil (.inl h)
  exact ⟨i+1,⟨rfl,congrArg Value.string e1.symm,congrArg (fun p:Int × Int=>Value.int .i64 p.1) e2.symm,congrArg (fun p:Int × Int=>Value.int .i64 p.2) e2.symm,rfl,rfl,rfl,trivial⟩,⟨by exact fx,by omega⟩,by omega⟩
 ·obtain ⟨-,e1,e2⟩:=bI0 hid hil (.inr h)
  exact ⟨i+1,⟨rfl,congrArg Value.string e1.symm,congrArg (fun p:Int × Int=>Value.int .i64 p.1) e2.symm,congrArg (fun p:Int × Int=>Value.int .i64 p.2) e2.symm,rfl,rfl,rfl,trivial⟩,⟨by exact fx,by omega⟩,by omega⟩
 ·obtain ⟨-,e1,e2⟩:=bQs hil ‹_› h
  exact ⟨i+1,⟨rfl,congrArg Value.string e1.symm,congrArg (fun p:Int × Int=>Value.int .i64 p.1) e2.symm,congrArg (fun p:Int × Int=>Value.int .i64 p.2) e2.symm,rfl,rfl,rfl,trivial⟩,⟨by exact fx,by omega⟩,by omega⟩
 ·obtain rfl:i=l.length:=by omega
  exact aA rfl ⟨rfl,x2.trans x3⟩
end
section
open Go Go.K
theorem bMb (l:List ByteArray) (s:ByteArray):inS l s=inB l s:=by
 rw [Bool.eq_iff_iff,aNi,bMe]
theorem bAc {l:List Ent} (hE:∀x∈l,EntOk x) (s:ByteArray):(dI l s).tx.ins.length≤1000:=by
 by_cases h:iM l s=true
 ·exact (nD (hE _ (aWb h).1).check).ins
 ·have h2:(l.find? fun x=>decide (x.id=s))=none:=by
   have h1:=aH9 (p:=fun x:Ent=>decide (x.id=s)) (l:=l)
   unfold iM at h
   rw [←h1] at h
   exact Option.not_isSome_iff_eq_none.1 h
  unfold dI
  rw [h2]
  decide
attribute [local irreducible] aH aM aY KOp.wp K.Spec u32 leS vnS str aP cM bK idT aQ aG aN idN bG cL cB bQ cF fM dC bV aO kZ fL wF qP bP evL inS inB
theorem aPh {v:Value} {l:List ByteArray} (a:ByteArray) (w:World) (hs:SlE bB w v l) (hn:l.length≤1000000):K.Spec Tryz.prog F.slices_Contains_L_string_string [v,.string a] w fun r w'=>r=.bool (inB l a)∧w'=w:=
 dO (aDd a w hs (by omega)) fun r w' ⟨h1,h2⟩=>⟨by rw [h1,←bMb];unfold inS;rfl,h2⟩
theorem bMt:bW Tryz.prog F.replace_signals_1=true:=by kernel_rfl
theorem bKi:bW Tryz.prog F.replace_replaceable_1=true:=by kernel_rfl
theorem bHp (x:TIn) (wv:Value) (w:World) (hw:wv.oneCell'=true):K.Spec Tryz.prog F.replace_signals_1 [.agg (fS x wv).toArray] w fun r w'=>r=.bool (decide (x.q<4294967294))∧Ext w w':=by
 refine aEj rfl ?_
 unfold rO
 refine oy ?_
 repeat' (first|(first|refine go2 ?_|fail)|refine zD rfl rfl (fun bp wp xp ap (rp:Row wp ⟨bp,0,none⟩ (fS x wv)) hp0=>?_))
 exact aA rfl ⟨rfl,by exact fx⟩
theorem aI5 {N:List Nat} {cs:List Value} {t:Tx} (w:World) (ht:txR.rel N w cs t) (hs:t.ins.length≤1000):K.Spec Tryz.prog F.replace_signals [.agg cs.toArray] w fun r w'=>r=.bool (bLt t)∧Ext w w':=by
 obtain ⟨iv,ov,rfl,hi,ho,hv⟩:=ht
 have tl:∀w1,Ext w w1→qQ F.replace_signals_1 [] inR (fun cs=>.agg cs.toArray) N w1 t.ins (fun x=>decide (x.q<4294967294)):=fun w1 x1 x _ w' cs x2 hc=>by
  obtain ⟨bv,rfl,hw,_⟩:=hc
  exact bHp x bv w' hw.one
 refine aJd rfl ?_
 unfold vB
 refine oy ?_
 repeat' (first|(first|refine go2 ?_|fail)|refine zD rfl rfl (fun bp wp xp ap (rp:Row wp ⟨bp,0,none⟩ (aK t iv ov)) hp0=>?_)|(refine zC rfl (pO (l:=t.ins) (M:=N) (g:=F.replace_signals_1) (capl:= []) _ bMt (SlR.ext hi (by exact fx)) (by omega) (tl _ (by exact fx))) ?_;rintro _ w2 ⟨rfl,x2⟩))
 exact aA rfl ⟨rfl,by exact fx⟩
theorem bCj {g b2:Nat} {M:List Nat} {l:List Ent} (s:ByteArray) (w:World) (hG:GrR w g M l) (hM:∀b∈M,b<w.heap.size) (hr:Row w ⟨b2,0,none⟩ [.pointer (some ⟨g,0,none⟩)]):
  K.Spec Tryz.prog F.replace_replaceable_1 [.string s,.pointer (some ⟨b2,0,none⟩)] w fun r w'=>r=.bool (bLt (dI l s).tx)∧Ext w w':=by
 have hE:=hG.ok
 have hsm:=bAc hE s
 refine xH rfl ?_
 unfold mO
 refine oy ?_
 repeat' (first|(first|refine go2 ?_|fail)|(refine zC (d:=some 9) rfl (nS (M:=M) s _ (hG.ext (by exact fx)) (fun b hb=>nLt (hM b hb) (Ext.size (by exact fx)))) ?_;rintro v5 w5 ⟨ds,rfl,e5,x5⟩;obtain ⟨iv,ov,rfl,o1,o2,o3⟩:=e5;have i1:=o1.one;have i2:=o2.one)|refine zE (d':=4) (fun _=>rfl) rfl rfl (by simp [bE,i1,i2];exact ⟨rfl,rfl,rfl,rfl,rfl⟩) (fun b6 w6 x6 a6 (r6:Row w6 ⟨b6,0,none⟩ (bE (dI l s) iv ov)) hb6=>?_)|(refine zC (d:=some 14) rfl (aI5 (N:= []) (cs:=aK (dI l s).tx iv ov) (t:=(dI l s).tx) _ ⟨iv,ov,rfl,SlR.ext ((o1.sub (M':= []) (by simp)).sl (by simp)) (by exact fx),SlR.ext ((o2.sub (M':= []) (by simp)).sl (by simp)) (by exact fx),o3.1,o3.2.1⟩ hsm) ?_;rintro _ w7 ⟨rfl,x7⟩))
 exact aA rfl ⟨rfl,by exact fx⟩
set_option maxHeartbeats 1000000 in
theorem bHo {g:Nat} {M:List Nat} {l:List Ent} (s:ByteArray) (w:World) (hG:GrR w g M l) (hM:∀b∈M,b<w.heap.size) (hl:l.length≤1000):
  K.Spec Tryz.prog F.replace_replaceable [.pointer (some ⟨g,0,none⟩),.string s] w fun r w'=>r=.bool (uE l (dI l s))∧Ext w w':=by
 have hE:=hG.ok
 have hsm:=bAc hE s
 have hle:=iF l (dC l (dI l s).tx)
 refine aBs rfl ?_
 unfold pK
 refine oy ?_
 repeat' (first|(first|refine go2 ?_|fail)|refine zD rfl rfl (fun b2 wg xg ag (rg:Row wg ⟨b2,0,none⟩ [.pointer (some ⟨g,0,none⟩)]) hg0=>?_)|(refine zC (d:=some 10) rfl (nS (M:=M) s _ (hG.ext (by exact fx)) (fun b hb=>nLt (hM b hb) (Ext.size (by exact fx)))) ?_;rintro v5 w5 ⟨ds,rfl,e5,x5⟩;obtain ⟨iv,ov,rfl,o1,o2,o3⟩:=e5;have i1:=o1.one;have i2:=o2.one)|(refine zE (d':=5) (fun _=>rfl) rfl rfl (by simp [bE,i1,i2];exact ⟨rfl,rfl,rfl,rfl,rfl⟩) (fun b6 w6 x6 a6 (r6:Row w6 ⟨b6,0,none⟩ (bE (dI l s) iv ov)) hb6=>?_);have q1:=SlR.ext ((o1.sub (M':= []) (by simp)).sl (by simp)) x6;have q2:=SlR.ext ((o2.sub (M':= []) (by simp)).sl (by simp)) x6;clear o1 o2)|(refine zC (d:=some 15) rfl (aI5 (N:= []) (cs:=aK (dI l s).tx iv ov) (t:=(dI l s).tx) _ ⟨iv,ov,rfl,SlR.ext q1 (by exact fx),SlR.ext q2 (by exact fx),o3.1,o3.2.1⟩ hsm) ?_;rintro _ w7 ⟨rfl,x7⟩)|refine zK rfl (fun h=>?_) (fun h=>?_)|(refine zC (d:=some 20) rfl (aLl (M:=M) (N:= []) (l:=l) (cs:=aK (dI l s).tx iv ov) (t:=(dI l s).tx) _ (hG.ext (by exact fx)) (fun b hb=>nLt (hM b hb) (Ext.size (by exact fx))) ⟨iv,ov,rfl,SlR.ext q1 (by exact fx),SlR.ext q2 (by exact fx),o3.1,o3.2.1⟩ hsm hl) ?_;rintro va w8 ⟨oa,x8⟩;have sa:SlR nM [] w8 va (aO l (dC l (dI l s).tx)):=SlE.toR (F:=bB) (ag:=false) oa.sl (by simp);have tl:qQ F.replace_replaceable_1 [.pointer (some ⟨b2,0,none⟩)] nM (fun cs=>cs.headD undef) [] w8 (aO l (dC l (dI l s).tx)) (fun s=>bLt (dI l s).tx):=(fun x hx w' cs x2 hc=>by obtain rfl:cs= [Value.string x]:=hc;exact bCj (M:=M) x w' (hG.ext (Ext.trans (by exact fx) x2)) (fun b hb=>nLt (hM b hb) (Ext.size (Ext.trans (by exact fx) x2))) (rg.ext (Ext.trans (by exact fx) x2))))|(refine zC (d:=some 22) rfl (aAi (l:=aO l (dC l (dI l s).tx)) (M:= []) (g:=F.replace_replaceable_1) (capl:= [_]) _ bKi sa (by omega) tl) ?_;rintro _ w9 ⟨rfl,x9⟩))
 all_goals
  refine aA rfl ⟨congrArg Value.bool ?_,by exact fx⟩
  unfold uE
  simp only [h,Bool.true_or,Bool.false_or]
set_option maxHeartbeats 2000000 in
theorem aPz {g : Nat} {M N : List Nat} {l : List Ent} {cs : List Value} {t : Tx} {vc vg : Value} (w : World) (hG : GrR w g M l) (hM : ∀ b ∈ M, b < w.heap.size) (ht : txR.rel N w cs t) (hs : t.ins.length ≤ 1000) (hl : l.length ≤ 1000)
    (hc : SlE bB w vc (aO l (bP l t))) (hg : SlE bB w vg (aO l (evL l t))) :
    K.Spec Tryz.prog F.replace_fresh [.pointer (some ⟨g, 0, none⟩), .agg cs.toArray, vc, vg] w fun r w' => r = .bool (nH l t) ∧ Ext w w' := by
  have hlc := iF l (bP l t)
  have hle := iF l (evL l t)
  obtain ⟨iv, ov, rfl, hi, ho, hv⟩ := ht
  obtain ⟨ids, hids⟩ : ∃ ids, ids = aO l (bP l t) := ⟨_, rfl⟩
  obtain ⟨gone, hgone⟩ : ∃ gone, gone = aO l (evL l t) := ⟨_, rfl⟩
  have hF : nH l t = t.ins.any fun b => fH l b.p && (inB gone b.p.s || !inB ids (aEn l b.p)) := by rw [hids, hgone]; rfl
  rw [← hids] at hc hlc
  rw [← hgone] at hg hle
  rw [hF]
  refine aM2 rfl ?_
  unfold aA4
  refine oy ?_
  repeat' (first|(first|refine go2 ?_|fail)|refine zD rfl rfl (fun bt wt xt bt' (rt : Row wt ⟨bt, 0, none⟩ (aK t iv ov)) hbt0=>?_)|refine zG (d := some 17) (E := inR) (M := N) (l := t.ins) rfl (SlR.ext hi (by exact fx)) ?_|refine zL rfl (fun h => ?_) (fun h => ?_)|(refine aJ (fun (i : Nat) w' => Ext w w' ∧ i ≤ t.ins.length ∧ ∀ b ∈ t.ins.take i, (fH l b.p && (inB gone b.p.s || !inB ids (aEn l b.p))) = false) (fun i => [(0, .pointer (some ⟨g, 0, none⟩)), (2, vc), (3, vg), (16, iv), (17, .int .i64 (t.ins.length : Nat)), (18, .int .i64 i)]) (fun i => t.ins.length - i) 0 ⟨rfl, rfl, rfl, rfl, rfl, rfl, trivial⟩ ⟨xt, by simp, by simp⟩ ?_; clear xt; rintro i ρ w3 ⟨x3, hi3, hno⟩))
  · have hil : i < t.ins.length := by omega
    refine aR (d := some 20) (E := inR) (M := N) rfl rfl (n := i) (l := t.ins) (hi.ext x3) rfl hil (fun ad cs r4 he => ?_)
    obtain ⟨wv, rfl, q1, q2, q3⟩ := he
    have i1 := q1.one
    have htk : ∀ {P : TIn → Prop}, (∀ b ∈ t.ins.take i, P b) → P t.ins[i] → ∀ b ∈ t.ins.take (i + 1), P b := fun h1 h2 b hb => by
      rw [List.take_succ_eq_append_getElem hil] at hb
      rcases List.mem_append.1 hb with h | h
      · exact h1 b h
      · simp at h; subst h; exact h2
    have hyes : ∀ {P : TIn → Bool}, P t.ins[i] = true → t.ins.any P = true := fun h => List.any_eq_true.2 ⟨_, gMe hil, h⟩
    obtain ⟨B, hB⟩ : ∃ B, fH l t.ins[i].p = B := ⟨_, rfl⟩
    obtain ⟨C, hC⟩ : ∃ C, inB gone t.ins[i].p.s = C := ⟨_, rfl⟩
    obtain ⟨D, hD⟩ : ∃ D, inB ids (aEn l t.ins[i].p) = D := ⟨_, rfl⟩
    cases B <;> cases C <;> cases D
    all_goals repeat' (first|(first|refine go2 ?_|fail)|refine zE (d' := 10) (fun _=>rfl) rfl rfl (by simp [fS, i1]; exact ⟨rfl, rfl, rfl⟩) (fun b6 w6 x6 a6 (r6 : Row w6 ⟨b6, 0, none⟩ (fS t.ins[i] wv)) hb6=>?_)|(refine zC (d := some 26) rfl (aIy (M := M) (l := l) t.ins[i].p q2 _ (hG.ext (by exact fx)) (fun b hb => nLt (hM b hb) (Ext.size (by exact fx)))) ?_; rintro _ w7 ⟨o, rfl, -, x7⟩; rw [hB])|refine zE (d' := 11) (vs := gI o) (fun _=>rfl) rfl rfl rfl (fun b8 w8 x8 a8 r8 hb8=>?_)|refine zM rfl (fun h => ?_) (fun h => ?_)|(refine zC (d := some 35) rfl (aGw (M := M) (l := l) t.ins[i].p _ (hG.ext (by exact fx))) ?_; rintro _ w9 ⟨rfl, x9⟩)|(refine zC (d := some 42) rfl (aPh (l := gone) t.ins[i].p.s _ (SlE.ext (by exact fx) hg) (by omega)) ?_; rintro _ _ ⟨rfl, rfl⟩; rw [hC])|(refine zC (d := some 46) rfl (aPh (l := ids) (aEn l t.ins[i].p) _ (SlE.ext (by exact fx) hc) (by omega)) ?_; rintro _ _ ⟨rfl, rfl⟩; rw [hD])|refine zK rfl (fun h => ?_) (fun h => ?_))
    all_goals first
      | exact ⟨i + 1, ⟨rfl, rfl, rfl, rfl, rfl, rfl, trivial⟩, ⟨by exact fx, by omega, htk hno (by rw [hB, hC, hD]; rfl)⟩, by omega⟩
      | exact ⟨i + 1, ⟨rfl, rfl, rfl, rfl, rfl, rfl, trivial⟩, ⟨by exact fx, by omega, htk hno (by rw [hB]; rfl)⟩, by omega⟩
      | (rw [show (t.ins.any fun b => fH l b.p && (inB gone b.p.s || !inB ids (aEn l b.p))) = true from hyes (by rw [hB, hC, hD]; rfl)]
         exact aA rfl ⟨rfl, by exact fx⟩)
  · have e : (t.ins.any fun b => fH l b.p && (inB gone b.p.s || !inB ids (aEn l b.p))) = false := by
      rw [tLe (by omega)] at hno
      exact List.any_eq_false.2 (fun b hb => by rw [hno b hb]; simp)
    rw [e]
    exact aA rfl ⟨rfl, x3⟩
end
section
open Go Go.K
attribute [local irreducible] aH aM aY KOp.wp K.Spec u32 leS vnS str aP cM bK idT aQ aG aN idN bG cL cB bQ cF fM dC bV aO kZ fL
theorem bPi (p q:Pt):(decide (p.s=q.s)&&(decide (p.i=q.i)&&true))=decide (p=q):=by
 cases p;cases q
 simp only [Bool.and_true,Pt.mk.injEq]
 exact Bool.decide_and _ _ |>.symm
theorem bJc:bW Tryz.prog F.replace_Conflicts_1_1=true:=by kernel_rfl
theorem bKa:bW Tryz.prog F.replace_Conflicts_1=true:=by kernel_rfl
theorem bA7 (a b:TIn) (av bv:Value) {ba:Nat} (w:World) (hbv:bv.oneCell'=true) (ha:Row w ⟨ba,0,none⟩ (fS a av)):K.Spec Tryz.prog F.replace_Conflicts_1_1 [.agg (fS b bv).toArray,.pointer (some ⟨ba,0,none⟩)] w fun r w'=>r=.bool (decide (a.p=b.p))∧Ext w w':=by
 rw [←bPi]
 refine yG rfl ?_
 unfold mJ
 refine oy ?_
 repeat' (first|(first|refine go2 ?_|fail)|refine zD rfl rfl (fun bp wp xp ap (rp:Row wp ⟨bp,0,none⟩ (fS b bv)) hp0=>?_))
 exact aA rfl ⟨rfl,by exact fx⟩
theorem bDi {M:List Nat} (a:TIn) (av iv ov:Value) {bt:Nat} {t:Tx} (w:World) (hav:av.oneCell'=true) (ht:Row w ⟨bt,0,none⟩ (aK t iv ov)) (hi:SlR inR M w iv t.ins) (hn:t.ins.length≤1000):K.Spec Tryz.prog F.replace_Conflicts_1 [.agg (fS a av).toArray,.pointer (some ⟨bt,0,none⟩)] w fun r w'=>r=.bool (t.ins.any fun b=>decide (a.p=b.p))∧Ext w w':=by
 refine aBp rfl ?_
 unfold pJ
 refine oy ?_
 repeat' (first|(first|refine go2 ?_|fail)|refine zD rfl rfl (fun bp wp xp ap (rp:Row wp ⟨bp,0,none⟩ (fS a av)) hp0=>?_)|(refine zC rfl (pO (l:=t.ins) (M:=M) (g:=F.replace_Conflicts_1_1) (capl:= [_]) (p:=fun b=>decide (a.p=b.p)) _ bJc (SlR.ext hi (by exact fx)) (by omega) ?_) ?_;rotate_left;rintro _ w2 ⟨rfl,x2⟩))
 ·exact aA rfl ⟨rfl,by exact fx⟩
 ·intro x _ w' cs x2 hc
  obtain ⟨bv,rfl,hw,_⟩:=hc
  exact bA7 a x av bv w' hw.one (rp.ext x2)
theorem aPl {l:List Ent} {t:Tx} {i:Nat} (h:i<l.length):aO (l.take (i+1)) ((bP l t).take (i+1))=aO (l.take i) ((bP l t).take i)++if gW t l[i]=true then [l[i].id] else []:=by
 have e:(bP l t)[i]'(by rw [←aKl];exact h)=gW t l[i]:=by simp [bP]
 rw [aOg aKl h,e]
set_option maxHeartbeats 2000000 in
theorem fZ {g:Nat} {M N:List Nat} {l:List Ent} {cs:List Value} {t:Tx} (w:World) (hG:GrR w g M l) (hM:∀b∈M,b<w.heap.size) (ht:txR.rel N w cs t) (hs:t.ins.length≤1000) (hl:l.length≤1000):
  K.Spec Tryz.prog F.replace_Conflicts [.pointer (some ⟨g,0,none⟩),.agg cs.toArray] w fun r w'=>Own bB T.string w.heap.size w' r (aO l (bP l t))∧Ext w w':=by
 have hsm:∀x∈l,x.tx.Sm:=fun x hx=>nD (hG.ok x hx).check
 have id0:aO (l.take 0) ((bP l t).take 0)= []:=by rw [List.take_zero,List.take_zero];unfold aO;rfl
 obtain ⟨iv,ov,rfl,hi,ho,hv⟩:=ht
 refine aEi rfl ?_
 unfold rQ
 refine oy ?_
 repeat' (first|(first|refine go2 ?_|fail)|refine zD (d:=some 3) rfl rfl (fun bt wt xt bt' (rt:Row wt ⟨bt,0,none⟩ (aK t iv ov)) ht0=>?_)|(refine zC (d:=some 9) rfl (sZ (M:=M) (l:=l) _ (hG.ext (by exact fx)) (fun b hb=>nLt (hM b hb) (Ext.size (by exact fx))) (by omega)) ?_;rintro va w2 ⟨oa,x2⟩;have sa:SlR eD [] w2 va l:=(oa.sub (M':= []) (by simp)).sl (by simp);have x02:Unit→Ext w w2:=(fun _=>by exact fx);have s02:=(x02 ()).size;have i2:=hi.ext (x02 ());have r2:=rt.ext x2)|refine zG (d:=some 10) (E:=eD) (M:= []) (l:=l) rfl (SlR.ext sa (by exact fx)) ?_|refine zL rfl (fun h=>?_) (fun h=>?_)|(refine aJ (fun (p:Nat × Value) w'=>Ext w2 w'∧p.1≤l.length∧Own bB T.string w2.heap.size w' p.2 (aO (l.take p.1) ((bP l t).take p.1))) (fun p=> [(3,.pointer (some ⟨bt,0,none⟩)),(5,p.2),(9,va),(10,.int .i64 (l.length:Nat)),(11,.int .i64 p.1)]) (fun p=>l.length - p.1) (0,.slice none 0 0) ⟨rfl,rfl,rfl,rfl,rfl,trivial⟩ ⟨Ext.refl _,by simp,by rw [id0];exact Own.nil _ _ _⟩ ?_;rintro ⟨i,v5⟩ ρ w3 ⟨x3,hi3,o3⟩;simp only at hi3 o3;dsimp only))
 ·have hil:i<l.length:=by omega
  have hxs:=(hsm _ (gMe hil)).ins
  have s3:=x3.size
  refine aR (d:=some 13) (E:=eD) (M:= []) rfl rfl (n:=i) (l:=l) (SlR.ext sa (by exact fx)) rfl hil (fun ad cs r4 he=>?_)
  obtain ⟨iv2,ov2,rfl,q1,q2,q3⟩:=he
  have i1:=q1.one
  have j2:=q2.one
  have r3:=r2.ext x3
  have i3:=i2.ext x3
  have hle:=rV (l.take i) ((bP l t).take i)
  have htl:(l.take i).length=i:=by rw [List.length_take];omega
  have x23:Unit→Ext w2 w3:=fun _=>x3
  clear x3
  have tl:∀w1,Ext w3 w1→qQ F.replace_Conflicts_1 [.pointer (some ⟨bt,0,none⟩)] inR (fun cs=>.agg cs.toArray) [] w1 l[i].tx.ins (fun a=>t.ins.any fun b=>decide (a.p=b.p)):=fun w1 x1 x _ w' cs x2 hc=>by
   obtain ⟨bv,rfl,hw,_⟩:=hc
   exact bDi (M:=N) x bv iv ov w' hw.one (r3.ext (x1.trans x2)) (i3.ext (x1.trans x2)) hs
  repeat' (first|(first|refine go2 ?_|fail)|refine zE (d':=7) (fun _=>rfl) rfl rfl (by simp [bE,i1,j2];exact ⟨rfl,rfl,rfl,rfl,rfl⟩) (fun b6 w6 x6 a6 (r6:Row w6 ⟨b6,0,none⟩ (bE l[i] iv2 ov2)) hb6=>?_)|(refine zC (d:=some 19) rfl (pO (l:=l[i].tx.ins) (M:= []) (g:=F.replace_Conflicts_1) (capl:= [_]) (p:=fun a=>t.ins.any fun b=>decide (a.p=b.p)) _ bKa (SlR.ext q1 (by exact fx)) (by omega) (tl _ (by exact fx))) ?_;rintro _ w7 ⟨rfl,x7⟩)|refine zM rfl (fun h=>?_) (fun h=>?_)|refine zI (d:=some 23) (cs:= [.string l[i].id]) rfl (fun b9 w9 x9 a9 hb9=>?_))
  ·have x39:Ext w3 w9:=by exact fx
   have s39:=x39.size
   refine jY (d:=some 24) (E:=bB) (v:=v5) (l2:= [l[i].id]) rfl (o3.ext x39) (by omega) rfl rfl (dR a9 rfl) rfl rfl (by simp only [List.length_cons,List.length_nil];omega) (fun v10 w10 o10 _ c10 hb10=>?_)
   have hh:gW t l[i]=true:=h
   repeat' (first|refine go2 ?_|fail)
   exact ⟨(i+1,v10),⟨rfl,rfl,rfl,rfl,rfl,trivial⟩,⟨(((x23 ()).trans x39).chg c10).mono (fun b hb=>.inr (o3.base b hb)),by simp only;omega,by simp only;rw [aPl hil,if_pos hh];exact o10⟩,by simp only;omega⟩
  ·have hh:¬gW t l[i]=true:=by
    have h2:gW t l[i]=false:=h
    rw [h2];simp
   exact ⟨(i+1,v5),⟨rfl,rfl,rfl,rfl,rfl,trivial⟩,⟨Ext.trans (x23 ()) (by exact fx),by simp only;omega,by simp only;rw [aPl hil,if_neg hh,List.append_nil];exact o3.ext (by exact fx)⟩,by simp only;omega⟩
 ·rw [tLe (by omega),tLe (by rw [←aKl];omega)] at o3
  exact aA rfl ⟨o3.lower s02,Ext.trans (x02 ()) (by exact fx)⟩
end
section
open Go Go.K
attribute [local irreducible] aH aM aY KOp.wp K.Spec u32 leS vnS str aP cM bK idT aQ aG aN idN bG cL cB bQ cF fM dC bV aO kZ fL wF qP bP evL
set_option maxHeartbeats 4000000 in
theorem kJ {g:Nat} {M N:List Nat} {l:List Ent} {cs:List Value} {t:Tx} (w:World) (hG:GrR w g M l) (hM:∀b∈M,b<w.heap.size) (ht:txR.rel N w cs t) (hs:t.ins.length≤1000) (hl:l.length≤1000):
  K.Spec Tryz.prog F.replace_Evicted [.pointer (some ⟨g,0,none⟩),.agg cs.toArray] w fun r w'=>Own bB T.string w.heap.size w' r (aO l (evL l t))∧Ext w w':=by
 have hnd:=hG.nodup
 have ht0:=ht
 obtain ⟨iv,ov,rfl,hi,ho,hv⟩:=ht
 have id0:aO (l.take 0) ((evL l t).take 0)= []:=by rw [List.take_zero,List.take_zero];unfold aO;rfl
 obtain ⟨ids,hids⟩:∃ids,ids=aO l (bP l t):=⟨_,rfl⟩
 have hil:ids.length≤l.length:=by rw [hids];exact iF _ _
 have m0:qP l (ids.take 0)= []:=by rw [List.take_zero];unfold qP;rfl
 refine aG6 rfl ?_
 unfold vM
 refine oy ?_
 repeat' (first|(first|refine go2 ?_|fail)|refine zD (d:=some 3) rfl rfl (fun bt wt xt bt' (rt:Row wt ⟨bt,0,none⟩ (aK t iv ov)) hbt0=>?_)|(refine iX (d:=some 13) (E:=sK) (fv:=fun n:Nat=>Value.int .i64 (n:Nat)) (fun bm w1 x1 m1 hb1=>?_);have lm:=m1.lt)|(refine zC (d:=some 16) rfl (fZ (M:=M) (N:=N) (l:=l) (cs:=aK t iv ov) (t:=t) _ (hG.ext (by exact fx)) (fun b hb=>nLt (hM b hb) (Ext.size (by exact fx))) (R.ext ht0 (by exact fx)) hs hl) ?_;rw [←hids];rintro vc w2 ⟨oc,x2⟩)|refine bL (d:=some 17) (E:=bB) (l:=ids) rfl oc.sl ?_)
 have x02:Ext w w2:=(xt.trans x1).trans x2
 have m2:=m1.ext x2
 have bcb:=oc.base
 have hc2:∀b∈aC vc,b∉ [bm]:=fun b hb h=>by have:=bcb b hb;simp at h;omega
 have hbm:w.heap.size≤bm:=by have:=xt.size;omega
 have lm2:bm<w2.heap.size:=nLt lm x2.size
 clear xt x1 x2 m1
 repeat' (first|(first|refine go2 ?_|fail)|refine zL rfl (fun h=>?_) (fun h=>?_)|(refine aJ (fun (p:Nat × List (ByteArray × Nat)) w'=>Ext w w'∧w2.heap.size≤w'.heap.size∧p.1≤ids.length∧dB sK (fun n:Nat=>Value.int .i64 (n:Nat)) w' bm p.2∧Cnt p.2 (qP l (ids.take p.1))∧Own bB T.string w1.heap.size w' vc ids) (fun p=> [(0,.pointer (some ⟨g,0,none⟩)),(5,.map (some bm)),(16,vc),(17,.int .i64 (ids.length:Nat)),(18,.int .i64 p.1)]) (fun p=>ids.length - p.1) (0, []) ⟨rfl,rfl,rfl,rfl,rfl,trivial⟩ ⟨x02,Nat.le_refl _,by simp,m2,by rw [m0];exact Cnt.nil,oc⟩ ?_;clear x02 oc m2;rintro ⟨i,met⟩ ρ w3 ⟨x3,s3,hi3,m3,c3,o3⟩;simp only at hi3 m3 c3;dsimp only))
 ·have hii:i<ids.length:=by omega
  have hbl:=iF l (bV l ids[i])
  have hml:=aXy (l:=l) (ids.take i)
  have hml2:l.length*(ids.take i).length≤1000*1000:=Nat.mul_le_mul hl (by rw [List.length_take];omega)
  refine aT (d:=some 20) (E:=bB) rfl rfl (n:=i) (l:=ids) o3.sl rfl hii (fun ad r5=>?_)
  have r5:Row w3 ad [Value.string ids[i]]:=r5
  repeat' (first|(first|refine go2 ?_|fail)|(refine zC (d:=some 24) rfl (vJ (M:=M) (l:=l) ids[i] _ (hG.ext (by exact fx)) (fun b hb=>nLt (hM b hb) (Ext.size (by exact fx))) hl) ?_;rintro vb w4 ⟨ob,x4⟩)|refine bL (d:=some 25) (E:=bB) (l:=aO l (bV l ids[i])) rfl ob.sl ?_)
  obtain ⟨bs,hbs⟩:∃bs,bs=aO l (bV l ids[i]):=⟨_,rfl⟩
  rw [←hbs] at ob hbl ⊢
  have x04:Ext w w4:=x3.trans x4
  have s4:=x4.size
  have bbb:=ob.base
  have hb2:∀b∈aC vb,b∉ [bm]:=fun b hb h=>by have:=bbb b hb;simp at h;omega
  have t0:qP l (ids.take i)++bs.take 0=qP l (ids.take i):=by rw [List.take_zero,List.append_nil]
  have m4:=m3.ext x4
  have o4:=o3.ext x4
  clear x3 x4 m3 o3 r5
  repeat' (first|(first|refine go2 ?_|fail)|refine zL rfl (fun h=>?_) (fun h=>?_)|(refine aJ (fun (p:Nat × List (ByteArray × Nat)) w'=>Ext w w'∧w2.heap.size≤w'.heap.size∧p.1≤bs.length∧dB sK (fun n:Nat=>Value.int .i64 (n:Nat)) w' bm p.2∧Cnt p.2 (qP l (ids.take i)++bs.take p.1)∧Own bB T.string w1.heap.size w' vc ids∧Own bB T.string w3.heap.size w' vb bs) (fun p=> [(0,.pointer (some ⟨g,0,none⟩)),(5,.map (some bm)),(16,vc),(17,.int .i64 (ids.length:Nat)),(18,.int .i64 i),(24,vb),(25,.int .i64 (bs.length:Nat)),(26,.int .i64 p.1)]) (fun p=>bs.length - p.1) (0,met) ⟨rfl,rfl,rfl,rfl,rfl,rfl,rfl,rfl,trivial⟩ ⟨x04,by omega,by simp,m4,by rw [t0];exact c3,o4,ob⟩ ?_;clear x04 m4 o4 ob;rintro ⟨j,met2⟩ ρ2 w5 ⟨x5,s5,hj5,m5,c5,o5,ob5⟩;simp only at hj5 m5 c5;dsimp only))
  ·have hjl:j<bs.length:=by omega
   refine aT (d:=some 28) (E:=bB) rfl rfl (n:=j) (l:=bs) ob5.sl rfl hjl (fun ad r6=>?_)
   have r6:Row w5 ad [Value.string bs[j]]:=r6
   have hadd:=c5.add bs[j]
   have htk:qP l (ids.take i)++bs.take (j+1)=qP l (ids.take i)++bs.take j++ [bs[j]]:=by rw [List.take_succ_eq_append_getElem hjl,List.append_assoc]
   have hcl:=bNv (qP l (ids.take i)++bs.take j) bs[j]
   rw [List.length_append,List.length_take] at hcl
   cases hag:aS met2 bs[j] with
   |none=>
    have hcz:=c5.none_ hag
    rw [hcz] at hadd
    repeat' (first|(first|refine go2 ?_|fail)|refine eQ (d:=some 32) (E:=sK) (fv:=fun n:Nat=>Value.int .i64 (n:Nat)) (k:=bs[j]) rfl rfl m5 rfl rfl (fun c hcc=>by rw [hag] at hcc;cases hcc) (fun hcn=>?_)|refine eY (d:=none) (E:=sK) (fv:=fun n:Nat=>Value.int .i64 (n:Nat)) (k:=bs[j]) (v:=1) rfl rfl rfl m5 rfl rfl (fun w6 c6 m6=>?_))
    refine ⟨(j+1,_),⟨rfl,rfl,rfl,rfl,rfl,rfl,rfl,rfl,trivial⟩,⟨(x5.chg c6).mono (by intro b hb;simp at hb;subst hb;exact .inr hbm),by have:=c6.size;omega,by simp only;omega,m6,by rw [htk];exact hadd,o5.chg c6 hc2,ob5.chg c6 hb2⟩,by simp only;omega⟩
   |some c=>
    have hcz:=(c5.found hag).1
    rw [hcz] at hadd hcl
    repeat' (first|(first|refine go2 ?_|fail)|(refine eQ (d:=some 32) (E:=sK) (fv:=fun n:Nat=>Value.int .i64 (n:Nat)) (k:=bs[j]) rfl rfl m5 rfl rfl (fun c' hcc=>?_) (fun hcn=>by rw [hag] at hcn;cases hcn);rw [hag] at hcc;injection hcc with hcc;subst hcc)|refine eY (d:=none) (E:=sK) (fv:=fun n:Nat=>Value.int .i64 (n:Nat)) (k:=bs[j]) (v:=c+1) rfl rfl rfl m5 rfl rfl (fun w6 c6 m6=>?_))
    refine ⟨(j+1,_),⟨rfl,rfl,rfl,rfl,rfl,rfl,rfl,rfl,trivial⟩,⟨(x5.chg c6).mono (by intro b hb;simp at hb;subst hb;exact .inr hbm),by have:=c6.size;omega,by simp only;omega,m6,by rw [htk];exact hadd,o5.chg c6 hc2,ob5.chg c6 hb2⟩,by simp only;omega⟩
  ·rw [tLe (l:=bs) (by omega)] at c5
   exact ⟨(i+1,met2),⟨rfl,rfl,rfl,rfl,rfl,trivial⟩,⟨x5,s5,by simp only;omega,m5,by rw [bHi hii,←hbs];exact c5,o5⟩,by simp only;omega⟩
 ·rw [tLe (l:=ids) (by omega)] at c3
  have s03:Unit→Ext w w3:=fun _=>x3
  repeat' (first|(first|refine go2 ?_|fail)|(refine zC (d:=some 37) rfl (sZ (M:=M) (l:=l) _ (hG.ext x3) (fun b hb=>nLt (hM b hb) x3.size) (by omega)) ?_;rintro va w4 ⟨oa,x4⟩;have sa:SlR eD [] w4 va l:=(oa.sub (M':= []) (by simp)).sl (by simp);have m4:=m3.ext x4;have x34:=x3.trans x4;clear x3)|refine zG (d:=some 38) (E:=eD) (M:= []) (l:=l) rfl (SlR.ext sa (by exact fx)) ?_|refine zL rfl (fun h=>?_) (fun h=>?_)|(refine aJ (fun (p:Nat × Value) w'=>Ext w4 w'∧p.1≤l.length∧Own bB T.string w4.heap.size w' p.2 (aO (l.take p.1) ((evL l t).take p.1))) (fun p=> [(5,.map (some bm)),(10,p.2),(37,va),(38,.int .i64 (l.length:Nat)),(39,.int .i64 p.1)]) (fun p=>l.length - p.1) (0,.slice none 0 0) ⟨rfl,rfl,rfl,rfl,rfl,trivial⟩ ⟨Ext.refl _,by simp,by rw [id0];exact Own.nil _ _ _⟩ ?_;rintro ⟨i,v5⟩ ρ w5 ⟨x5,hi5,o5⟩;simp only at hi5 o5;dsimp only))
  ·have hil2:i<l.length:=by omega
   have hle:=rV (l.take i) ((evL l t).take i)
   have htl:(l.take i).length=i:=by rw [List.length_take];omega
   have hev:=bRc (t:=t) hnd hil2
   rw [←hids] at hev
   have s5:=x5.size
   refine aR (d:=some 41) (E:=eD) (M:= []) rfl rfl (n:=i) (l:=l) (SlR.ext sa (by exact fx)) rfl hil2 (fun ad cs r4 he=>?_)
   obtain ⟨iv2,ov2,rfl,q1,q2,q3⟩:=he
   have i1:=q1.one
   have j2:=q2.one
   repeat' (first|(first|refine go2 ?_|fail)|refine zE (d':=12) (fun _=>rfl) rfl rfl (by simp [bE,i1,j2];exact ⟨rfl,rfl,rfl,rfl,rfl⟩) (fun b6 w6 x6 a6 (r6:Row w6 ⟨b6,0,none⟩ (bE l[i] iv2 ov2)) hb6=>?_)|refine eQ (d:=some 46) (E:=sK) (fv:=fun n:Nat=>Value.int .i64 (n:Nat)) (k:=l[i].id) rfl rfl (dB.ext (by exact fx) m4) rfl rfl (fun c hcc=>?_) (fun hcn=>?_)|(have hcz:=c3.found hcc;rw [hcz.1] at hev;refine zL (p:=((c:Nat):Int)>0) rfl (fun h9=>?_) (fun h9=>absurd h9 (by omega)))|(have hcz:=c3.none_ hcn;rw [hcz] at hev;refine zL (p:=(0:Int)>0) rfl (fun h9=>absurd h9 (by omega)) (fun h9=>?_))|refine zI (d:=some 51) (cs:= [.string l[i].id]) rfl (fun b9 w9 x9 a9 hb9=>?_))
   ·have x59:Ext w5 w9:=by exact fx
    have s59:=x59.size
    have hh:(evL l t)[i]'(by rw [←aAw];exact hil2)=true:=hev.2 (by omega)
    refine jY (d:=some 52) (E:=bB) (v:=v5) (l2:= [l[i].id]) rfl (o5.ext x59) (by omega) rfl rfl (dR a9 rfl) rfl rfl (by simp only [List.length_cons,List.length_nil];omega) (fun v10 w10 o10 _ c10 hb10=>?_)
    repeat' (first|refine go2 ?_|fail)
    exact ⟨(i+1,v10),⟨rfl,rfl,rfl,rfl,rfl,trivial⟩,⟨((x5.trans x59).chg c10).mono (fun b hb=>.inr (o5.base b hb)),by simp only;omega,by simp only;rw [aWo hil2,if_pos hh];exact o10⟩,by simp only;omega⟩
   ·have hh:¬(evL l t)[i]'(by rw [←aAw];exact hil2)=true:=fun h=>by have:=hev.1 h;have:=c3.none_ hcn;omega
    exact ⟨(i+1,v5),⟨rfl,rfl,rfl,rfl,rfl,trivial⟩,⟨by exact fx,by simp only;omega,by simp only;rw [aWo hil2,if_neg hh,List.append_nil];exact o5.ext (by exact fx)⟩,by simp only;omega⟩
  ·rw [tLe (by omega),tLe (by rw [←aAw];omega)] at o5
   exact aA rfl ⟨o5.lower x34.size,x34.trans x5⟩
end
section
open Go Go.K
section
variable {P:Program} {d:Option Tmp} {r:KR} {K:Env→World→Prop} {ρ:Env} {w:World}
theorem aJ5 {x y:Operand} {a b:Int} (hx:ev ρ x=.int .i64 a) (hy:ev ρ y=.int .i64 b) (k:aH P r K (put ρ d (.int .i64 (max a b))) w):aH P (.cons ⟨d,.minmax true x [y],none⟩ r) K ρ w:=
 cS rfl (by
  have e:(if b>a then b else a)=max a b:=by split<;>omega
  simp only [KOp.fix,List.foldl_cons,List.foldl_nil,hx,hy,Option.bind_some,wC,if_true,e]) k
end
theorem bKb (f s:Int):yN f s≤2100000000000000000:=by
 cases h:cD f s with
 |false=>unfold yN;rw [h];simp
 |true=>
  obtain ⟨F',S',rfl,rfl,b1,b2,b3⟩:=qR h
  rw [aSr h]
  have:=Nat.div_le_self (F'*1000) S'
  omega
theorem bJ8 {l:List Ent} (h:0<l.length):wS l l.length=(iA l).id:=by
 unfold wS iA
 rw [if_neg (by omega)]
theorem Own.blk_lt {α:Type} {E:Enc α} {t:TypeId} {B:Nat} {w:World} {v:Value} {l:List α} (h:Own E t B w v l):∀b∈aC v,b<w.heap.size:=by
 rcases h with ⟨rfl,rfl⟩|⟨b,cap,junk,rfl,hB,hat,hl⟩<;>simp [aC]
 exact hat.lt
attribute [local irreducible] aH aM aY KOp.wp K.Spec u32 leS vnS str aP cM bK idT aQ aG aN idN bG cL cB bQ cF fM dC bV aO kZ fL eT eE aDk yN jA bU mG iA fA bN wS
structure TrimI (w:World) (l:List Ent) (n:Int) (B g:Nat) (M U:List Nat) (L:List Ent) (M1:List Nat) (v:Value) (G:List ByteArray) (R:Int) (w':World):Prop where
 chg:Chg M w w'
 gr:GrU w' B g M1 (aC v++U) L
 own:Own bB T.string w.heap.size w' v G
 low:∀b∈M1,b∈M∨w.heap.size≤b
 eq:bU n l=((bU n L).1,G++(bU n L).2.1,max R (bU n L).2.2)
 rate:0≤R
 len:G.length+L.length≤l.length
theorem TrimI.start {w:World} {l:List Ent} {n:Int} {B g:Nat} {M U:List Nat} (hG:GrU w B g M U l):TrimI w l n B g M U l M (.slice none 0 0) [] 0 w:=
 ⟨Chg.refl _ _,hG,Own.nil _ _ _,fun _ h=>.inl h,by
  have:=(bGc (m:=n) hG.gr.nodup).1
  rw [List.nil_append,Int.max_eq_right this],Int.le_refl _,by simp⟩
theorem TrimI.stop {w w':World} {l L:List Ent} {n R:Int} {B g:Nat} {M U M1:List Nat} {v:Value} {G:List ByteArray} (h:TrimI w l n B g M U L M1 v G R w') (hs:L.length=0∨jA L≤n):bU n l=(L,G,R):=by
 have e:=h.eq
 rw [pR hs,List.append_nil] at e
 rw [e,Int.max_eq_left h.rate]
set_option maxHeartbeats 2000000 in
theorem aTu {B g:Nat} {M U:List Nat} {l:List Ent} (n:Int) (w:World) (hG:GrU w B g M U l) (hU:∀b∈U,b<w.heap.size) (hl:l.length≤1000):
  K.Spec Tryz.prog F.trim_Trim [.pointer (some ⟨g,0,none⟩),.int .i64 n] w fun r w'=>∃M' v,r=.tuple #[v,.int .i64 (bU n l).2.2]∧GrU w' B g M' U (bU n l).1∧Own bB T.string w.heap.size w' v (bU n l).2.1∧Chg M w w'∧(∀b∈M',b∈M∨w.heap.size≤b)∧∀b∈aC v,b∉M':=by
 refine aY4 rfl ?_
 unfold aMj
 refine oy ?_
 repeat' (first|(first|refine go2 ?_|fail)|(refine aJ (fun (p:List Ent × List Nat × Value × List ByteArray × Int) w'=>TrimI w l n B g M U p.1 p.2.1 p.2.2.1 p.2.2.2.1 p.2.2.2.2 w') (fun p=> [(0,.pointer (some ⟨g,0,none⟩)),(1,.int .i64 n),(6,p.2.2.1),(7,.int .i64 p.2.2.2.2)]) (fun p=>p.1.length) (l,M,.slice none 0 0, [],0) ⟨rfl,rfl,rfl,rfl,trivial⟩ (TrimI.start hG) ?_;rintro ⟨L,M1,v,G,R⟩ ρ w1 I1;simp only at I1;dsimp only))
 have hM1:=I1.gr.gr.lt
 have hLl:L.length≤1000:=by have:=I1.len;omega
 have hnd:=I1.gr.gr.nodup
 have hGR:=I1.gr.gr.r
 have s1:=I1.chg.size
 have hr1:=aId (eT L (iA L)).1 (eT L (iA L)).2
 have hr2:=bKb (eT L (iA L)).1 (eT L (iA L)).2
 repeat' (first|refine aJ5 (d:=some 38) rfl rfl ?_|(first|refine go2 ?_|fail)|(refine zC (d:=some 15) rfl (bDy (M:=M1) (l:=L) _ (hGR.ext (by exact fx)) (fun b hb=>nLt (hM1 b hb) (Ext.size (by exact fx))) hLl) ?_;rintro _ w2 ⟨rfl,x2⟩)|(refine zC (d:=some 20) rfl (bBu (M:=M1) (l:=L) _ (hGR.ext (by exact fx)) (fun b hb=>nLt (hM1 b hb) (Ext.size (by exact fx))) hLl) ?_;rintro _ w3 ⟨rfl,x3⟩)|refine zL rfl (fun h=>?_) (fun h=>?_)|refine zN rfl (fun h0=>?_) (fun h0=>?_)|(refine zC (d:=some 28) rfl (aPo (M:=M1) (l:=L) (wS L L.length) _ (hGR.ext (by exact fx)) (fun b hb=>nLt (hM1 b hb) (Ext.size (by exact fx))) hLl) ?_;rintro _ w4 ⟨rfl,x4⟩;rw [bJ8 h0,aPt hnd (bHn h0)])|(refine zC (d:=some 31) rfl (bGx _ _ _) ?_;rintro _ w5 ⟨rfl,x5⟩)|(refine zC (d:=some 41) rfl (vJ (M:=M1) (l:=L) (iA L).id _ (hGR.ext (by exact fx)) (fun b hb=>nLt (hM1 b hb) (Ext.size (by exact fx))) hLl) ?_;rintro vb w6 ⟨ob,x6⟩))
 ·have e:=I1.stop (.inl (by omega))
  rw [e]
  exact aA rfl ⟨M1,v,rfl,I1.gr.more (x2.trans x3) (fun b hb=>.inl (List.mem_append_right _ hb)),I1.own.ext (x2.trans x3),I1.chg.ext (x2.trans x3),I1.low,fun b hb hm=>I1.gr.dj b hm (List.mem_append_left _ hb)⟩
 ·have hlen:=iF L (mG L)
  obtain ⟨ids,hids⟩:∃ids,ids=aO L (mG L):=⟨_,rfl⟩
  have e1:aO L (bV L (iA L).id)=ids:=by rw [hids];unfold mG;rfl
  rw [e1] at ob
  rw [←hids] at hlen
  have x16:Ext w1 w6:=(((x2.trans x3).trans x4).trans x5).trans x6
  have sz16:=x16.size
  have sz15:=(((x2.trans x3).trans x4).trans x5).size
  have hbb:=ob.base
  have G6:=I1.gr.ext x16
  have o6:=I1.own.ext x16
  have C6:=I1.chg.ext x16
  have hvb:=Own.blk_lt I1.own
  have ob1:∀b∈aC vb,b∉M1∧b∉aC v:=fun b hb=>⟨fun h=>by have:=hM1 b h;have:=hbb b hb;omega,fun h=>by have:=hvb b h;have:=hbb b hb;omega⟩
  have d0:bN L (ids.take 0)=L:=by rw [List.take_zero];unfold bN;rfl
  have t0:G++ids.take 0=G:=by rw [List.take_zero,List.append_nil]
  have ll:=I1.len
  repeat' (first|(first|refine go2 ?_|fail)|refine bL (E:=bB) (l:=ids) rfl ob.sl ?_|(refine aJ (fun (p:Nat × List Nat × Value) w'=>Chg M w w'∧GrU w' B g p.2.1 (aC p.2.2++U) (bN L (ids.take p.1))∧Own bB T.string w.heap.size w' p.2.2 (G++ids.take p.1)∧(∀b∈p.2.1,b∈M∨w.heap.size≤b)∧p.1≤ids.length∧Own bB T.string w5.heap.size w' vb ids∧∀b∈aC vb,b∉p.2.1∧b∉aC p.2.2) (fun p=> [(0,.pointer (some ⟨g,0,none⟩)),(1,.int .i64 n),(6,p.2.2),(7,.int .i64 (max R (bD7 (eT L (iA L))))),(41,vb),(42,.int .i64 (ids.length:Nat)),(43,.int .i64 p.1)]) (fun p=>ids.length - p.1) (0,M1,v) ⟨rfl,rfl,rfl,rfl,rfl,rfl,rfl,trivial⟩ ⟨C6,by rw [d0];exact G6,by rw [t0];exact o6,I1.low,Nat.zero_le _,ob,ob1⟩ ?_;rintro ⟨k,M2,v2⟩ ρ2 w7 ⟨C7,G7,o7,low7,hk,ob7,dj7⟩;simp only at C7 G7 o7 low7 hk ob7 dj7;dsimp only)|refine zL rfl (fun h2=>?_) (fun h2=>?_))
  ·have hkl:k<ids.length:=by omega
   have sz7:=C7.size
   have hv2:=Own.blk_lt o7
   have hv2b:=o7.base
   have hbl7:=Own.blk_lt ob7
   have hU7:∀b∈aC v2++U,b<w7.heap.size:=fun b hb=>(List.mem_append.1 hb).elim (hv2 b) (fun h=>by have:=hU b h;omega)
   have hdl:=@qJ L (ids.take k)
   have htk:(ids.take k).length=k:=by rw [List.length_take];omega
   refine aT (d:=some 45) (E:=bB) rfl rfl (n:=k) (l:=ids) ob7.sl rfl hkl (fun ad r5=>?_)
   have r5:Row w7 ad [Value.string ids[k]]:=r5
   repeat' (first|refine go2 ?_|fail)
   refine zC (d:=some 49) rfl (aZ3 (M:=M2) (U:=aC v2++U) (l:=bN L (ids.take k)) ids[k] _ G7 hU7 (by omega)) ?_
   rintro _ w8 ⟨M3,rfl,G8,c8,hb8⟩
   have o8:=o7.chg c8 (fun b hb h=>G7.dj b h (List.mem_append_left _ hb))
   have ob8:=ob7.chg c8 (fun b hb=>(dj7 b hb).1)
   have sz8:=c8.size
   have C8:Chg M w w8:=(C7.trans c8).mono (fun b hb=>(List.mem_append.1 hb).elim .inl (fun h=>low7 b h))
   clear r5
   repeat' (first|refine go2 ?_|fail)
   refine zI (d:=some 52) (cs:= [.string ids[k]]) rfl (fun b9 w9 x9 a9 hb9=>?_)
   have sz9:=x9.size
   refine jY (d:=some 53) (E:=bB) (v:=v2) (l2:= [ids[k]]) rfl (o8.ext x9) (by omega) rfl rfl (dR a9 rfl) rfl rfl (by simp only [List.length_append,List.length_cons,List.length_nil];omega) (fun v5 w10 o10 _ c10 hb10=>?_)
   have sz10:=c10.size
   have G10:GrU w10 B g M3 (aC v5++U) (bN L (ids.take (k+1))):=by
    rw [rZ hkl]
    refine GrU.chg (G8.ext x9) (c10.mono (fun b hb=>.inl (List.mem_append_left _ hb))) (fun b hb=>(List.mem_append.1 hb).elim (fun h=>(hb10 b h).imp (fun h2=>List.mem_append_left _ h2) id) (fun h=>.inl (List.mem_append_right _ h)))
   have ob10:=(ob8.ext x9).chg c10 (fun b hb=>(dj7 b hb).2)
   have o10':Own bB T.string w.heap.size w10 v5 (G++ids.take (k+1)):=by
    rw [List.take_succ_eq_append_getElem hkl,←List.append_assoc];exact o10
   repeat' (first|refine go2 ?_|fail)
   refine ⟨(k+1,M3,v5),⟨rfl,rfl,rfl,rfl,rfl,rfl,rfl,trivial⟩,⟨((C8.ext x9).trans c10).mono (fun b hb=>(List.mem_append.1 hb).elim .inl (fun h=>.inr (hv2b b h))),G10,o10',fun b hb=>(hb8 b hb).elim (low7 b) (fun h=>.inr (by omega)),by simp only;omega,ob10,fun b hb=>⟨fun h=>(hb8 b h).elim (dj7 b hb).1 (fun h3=>by have:=hbl7 b hb;omega),fun h=>(hb10 b h).elim (dj7 b hb).2 (fun h3=>by have:=hbl7 b hb;omega)⟩⟩,by simp only;omega⟩
  ·obtain rfl:k=ids.length:=by omega
   rw [tLe (Nat.le_refl _)] at G7 o7
   have hd:bN L ids=fA L (mG L):=by rw [hids];exact zT _ _ hnd
   rw [hd] at G7
   have hll:=yY L (mG L)
   rw [←hids] at hll
   refine ⟨(fA L (mG L),M2,v2,G++ids,max R (bD7 (eT L (iA L)))),⟨rfl,rfl,rfl,rfl,trivial⟩,⟨C7,G7,o7,low7,?_,by simp only;have:=I1.rate;omega,by simp only [List.length_append];omega⟩,aD2 hnd h0⟩
   rw [I1.eq,aAf hnd (by omega),hids]
   simp only [List.append_assoc,Int.max_assoc]
 ·have e:=I1.stop (.inr (by omega))
  rw [e]
  exact aA rfl ⟨M1,v,rfl,I1.gr.more x2 (fun b hb=>.inl (List.mem_append_right _ hb)),I1.own.ext x2,I1.chg.ext x2,I1.low,fun b hb hm=>I1.gr.dj b hm (List.mem_append_left _ hb)⟩
end
section
open Go Go.K
section
variable {P:Program} {d:Option Tmp} {r:KR} {K:Env→World→Prop} {ρ:Env} {w:World}
theorem bM6 {x y:Operand} {n m:Nat} (hx:ev ρ x=.int .u64 (n:Nat)) (hy:ev ρ y=.int .u64 (m:Nat)) (h0:0<m) (hn:n<18446744073709551616) (k:aH P r K (put ρ d (.int .u64 ((n / m:Nat):Int))) w):aH P (.cons ⟨d,.bin .quo x y,none⟩ r) K ρ w:=
 cS rfl (by
  have e:∀m:Int,IntKind.u64.wrap m=m%18446744073709551616:=fun _=>rfl
  have h1:(n:Int).tdiv (m:Int)=((n / m:Nat):Int):=by rw [Int.tdiv_eq_ediv_of_nonneg (by omega)];rfl
  have h2:=Nat.div_le_self n m
  have h3:∀q:Nat,q≤n→((q:Nat):Int)%18446744073709551616=((q:Nat):Int):=fun q hq=>Int.emod_eq_of_lt (by omega) (by omega)
  have h4:¬(m:Int)=0:=by omega
  simp only [KOp.fix,hx,hy,bM,dK,Bool.false_eq_true,if_false,if_true,dG,h4,h1,e,h3 _ h2]) k
theorem bOl {x y:Operand} {n m:Nat} (hx:ev ρ x=.int .u64 (n:Nat)) (hy:ev ρ y=.int .u64 (m:Nat)) (h0:0<m) (k:aH P r K (put ρ d (.int .u64 ((n%m:Nat):Int))) w):aH P (.cons ⟨d,.bin .rem x y,none⟩ r) K ρ w:=
 cS rfl (by
  have h1:(n:Int).tmod (m:Int)=((n%m:Nat):Int):=by rw [Int.tmod_eq_emod_of_nonneg (by omega)];rfl
  have h4:¬(m:Int)=0:=by omega
  simp only [KOp.fix,hx,hy,bM,dK,Bool.false_eq_true,if_false,if_true,dG,h4,h1]) k
end
theorem aHa {x:Ent} (h:EntOk x):cD x.fee x.size=true:=by
 unfold cD
 rw [h.fee,Bool.true_and,h.size]
 have:=(cI (nD h.check) h.check).sizeM
 exact dTr (by omega)
def jO (l:List Ent) (t:Tx):Int:=if aG t≠0 then aG t else if l.any (gW t)=false then 0 else if bT (iI l t)=true then 0 else 3
def jR (l:List Ent) (t:Tx):Int:=if aG t≠0 then 0 else if l.any (gW t)=false then 0 else if bT (iI l t)=true then iI l t else 0
attribute [local irreducible] aH aM aY KOp.wp K.Spec u32 leS vnS str aP cM bK idT aQ aG aN idN bG cL cB bQ cF fM dC bV aO kZ fL wF qP bP evL inS inB mT iI lI
theorem bD5 (lo y:Nat) (hy0:0<y) (hlo:lo<18446744073709551616) (w:World):K.Spec Tryz.prog F.math_bits_Div64 [.int .u64 0,.int .u64 (lo:Nat),.int .u64 (y:Nat)] w fun r w'=>r=.tuple #[.int .u64 ((lo / y:Nat):Int),.int .u64 ((lo%y:Nat):Int)]∧Ext w w':=by
 refine aI3 rfl ?_
 unfold vN
 refine oy ?_
 repeat' (first|refine bM6 (d:=some 30) (n:=lo) (m:=y) rfl rfl hy0 hlo ?_|refine bOl (d:=some 33) (n:=lo) (m:=y) rfl rfl hy0 ?_|refine zL (p:=((y:Nat):Int)=0) rfl (fun h=>absurd h (by omega)) (fun _=>?_)|refine zL (p:=((y:Nat):Int)≤0) rfl (fun h=>absurd h (by omega)) (fun _=>?_)|(first|refine go2 ?_|fail)|refine fG ?_ ?_)
 all_goals exact aA rfl ⟨rfl,by exact fx⟩
theorem aU1 (S F' I':Nat) (hS:S≤1000000) (hF:F'≤1000000000000) (hI:0<I'∧I'≤1000000) (w:World):K.Spec Tryz.prog F.replace_above [.int .i64 (S:Nat),.int .i64 (F':Nat),.int .i64 (I':Nat)] w fun r w'=>r=.int .i64 ((F':Int)*(S:Int) / (I':Int)+1)∧Ext w w':=by
 have hp:F'*S≤1000000000000*1000000:=Nat.mul_le_mul hF hS
 have h1:F'*S / 18446744073709551616=0:=by omega
 have h2:F'*S%18446744073709551616=F'*S:=by omega
 have h3:=Nat.div_le_self (F'*S) I'
 have e:(F':Int)*(S:Int) / (I':Int)=((F'*S / I':Nat):Int):=by rw [Int.natCast_ediv,Int.natCast_mul]
 rw [e]
 obtain ⟨q,hq⟩:∃q,q=F'*S / I':=⟨_,rfl⟩
 obtain ⟨p,hpq⟩:∃p,p=F'*S:=⟨_,rfl⟩
 rw [←hq] at h3 ⊢
 rw [←hpq] at h1 h2 h3 hp
 refine aMx rfl ?_
 unfold aBg
 refine oy ?_
 repeat' (first|refine aL (d:=some 13) (.int .u64 (F':Nat)) rfl (congrArg (fun n=>some (Value.int .u64 n)) (aP7 (by omega))) ?_|refine aL (d:=some 15) (.int .u64 (S:Nat)) rfl (congrArg (fun n=>some (Value.int .u64 n)) (aP7 (by omega))) ?_|refine aL (d:=some 23) (.int .u64 (I':Nat)) rfl (congrArg (fun n=>some (Value.int .u64 n)) (aP7 (by omega))) ?_|refine aL (d:=some 28) (.int .i64 (q:Nat)) rfl (congrArg (fun n=>some (Value.int .i64 n)) (IntWalk.i64_in _ (by omega))) ?_|(first|refine go2 ?_|fail)|(refine zC (d:=some 16) rfl (aGl F' S (by omega) (by omega) _) ?_;rintro _ w3 ⟨rfl,x3⟩;rw [←hpq,h1,h2])|(refine zC (d:=some 24) rfl (bD5 p I' hI.1 (by omega) _) ?_;rintro _ w4 ⟨rfl,x4⟩;rw [show p / I'=q by rw [hq,hpq]]))
 exact aA rfl ⟨rfl,by exact fx⟩
theorem aWq (S:Nat) (f z:Int) (hS:S≤1000000) (hp:cD f z=true) (hf:f≤1000000000000) (w:World):K.Spec Tryz.prog F.replace_above [.int .i64 (S:Nat),.int .i64 f,.int .i64 z] w fun r w'=>r=.int .i64 (f*(S:Nat) / z+1)∧Ext w w':=by
 obtain ⟨F',I',rfl,rfl,b1,b2,b3⟩:=qR hp
 exact aU1 S F' I' hS (by omega) ⟨by omega,b3⟩ w
theorem aKn (R' S:Nat) (hR:R'≤100000000) (hS:S≤1000000) (w:World):K.Spec Tryz.prog F.amount_Fee [.int .i64 (R':Nat),.int .i64 (S:Nat)] w fun r w'=>r=.tuple #[.int .i64 (((R'*S+999) / 1000:Nat):Int),.int .i64 0]∧Ext w w':=by
 have hp:R'*S≤100000000*1000000:=Nat.mul_le_mul hR hS
 refine aVr rfl ?_
 unfold aJi
 refine oy ?_
 repeat' (first|refine zF (d:=some 7) (v:=.bool true) ((qF _ _ _).trans (by rw [dTr (by omega)])) ?_|refine aL (d:=some 16) (.int .i64 ((R'*S:Nat):Int)) rfl (congrArg (fun n=>some (Value.int .i64 n)) (IntWalk.i64_in _ (by omega))) ?_|refine aL (d:=some 18) (.int .i64 ((R'*S+999:Nat):Int)) rfl (congrArg (fun n=>some (Value.int .i64 n)) ((IntWalk.i64_in _ (by omega)).trans (by omega))) ?_|refine bBh (d:=some 19) (n:=R'*S+999) (m:=1000) rfl rfl (by omega) (by omega) ?_|(apply zO;focus((conv=>lhs;whnf)<;>(first|with_reducible exact rfl|(refine congrArg Value.bool ?_;decide))))|refine zF (d:=some 11) (v:=.bool true) ((qF _ _ _).trans (by rw [dTr (by omega)])) ?_|(first|refine go2 ?_|fail))
 exact aA rfl ⟨rfl,by exact fx⟩
theorem bJo {cs:List Value} {iv ov:Value} {t:Tx} (he:cs=aK t iv ov) (w:World) (h1:iv.oneCell'=true) (h2:ov.oneCell'=true):K.Spec Tryz.prog F.replace_Need [.pointer none,.agg cs.toArray] w fun r w'=>r=.tuple #[.int .i64 0,.int .i64 1]∧Ext w w':=by
 subst he
 refine tC rfl ?_
 unfold nT
 refine oy ?_
 repeat' (first|(first|refine go2 ?_|fail)|refine zD (d:=some 3) rfl rfl (fun bt wt xt bt' (rt:Row wt ⟨bt,0,none⟩ (aK t iv ov)) hbt0=>?_))
 exact aA rfl ⟨rfl,by exact fx⟩
set_option maxHeartbeats 2000000 in
theorem aDs {g:Nat} {M N:List Nat} {l:List Ent} {cs:List Value} {t:Tx} (w:World) (hG:GrR w g M l) (hM:∀b∈M,b<w.heap.size) (ht:txR.rel N w cs t) (hs:t.Sm) (hl:l.length≤1000) (hf:∀x∈l,x.fee≤1000000000000):
  K.Spec Tryz.prog F.replace_Need [.pointer (some ⟨g,0,none⟩),.agg cs.toArray] w fun r w'=>r=.tuple #[.int .i64 (jR l t),.int .i64 (jO l t)]∧Ext w w':=by
 have hnd:=hG.nodup
 have hE:=hG.ok
 have ht0:=ht
 obtain ⟨iv,ov,rfl,hi,ho,hv⟩:=ht
 by_cases hc:aG t=0
 ·have hz:=cI hs hc
  have hz2:=hz.sizeM
  have e0:pG t=.tuple #[.int .i64 (aQ t:Nat),.int .i64 0]:=by rw [pG,if_pos hc]
  obtain ⟨ids,hids⟩:∃ids,ids=aO l (bP l t):=⟨_,rfl⟩
  have hil:ids.length≤l.length:=by rw [hids];exact iF _ _
  have hel:=iF l (evL l t)
  have hfee:kZ l (aO l (evL l t))=xN l t:=by rw [aTm hnd];rfl
  have hgb:=aOy (t:=t) (c:=1000000000000) (fun x hx=>⟨((bR _).1 (hE x hx).fee).1,hf x hx⟩)
  have hgb2:((1000000000000:Nat):Int)*l.length≤1000000000000*1000:=by omega
  have hone:(1000*aQ t+999) / 1000=aQ t:=by omega
  have hconf:ids.length=0↔l.any (gW t)=false:=by rw [hids];exact aD1
  have hnl:iI l t=mT l (aQ t:Nat) (xN l t+(aQ t:Nat)) ids:=by rw [hids];unfold iI;rfl
  have n0:mT l (aQ t:Nat) (xN l t+(aQ t:Nat)) (ids.take 0)=xN l t+(aQ t:Nat):=by rw [List.take_zero];unfold mT;rfl
  have hin:∀s∈ids,dI l s∈l:=fun s hs=>by
   rw [hids] at hs
   obtain ⟨x,hx,_,rfl⟩:=rF.1 hs
   rw [(get_mem hnd hx).2];exact hx
  refine tC rfl ?_
  unfold nT
  refine oy ?_
  repeat' (first|(first|refine go2 ?_|fail)|refine zD (d:=some 3) rfl rfl (fun bt wt xt bt' (rt:Row wt ⟨bt,0,none⟩ (aK t iv ov)) hbt0=>?_)|(refine zC (d:=some 22) rfl (iK (M:=N) (cs:=aK t iv ov) (t:=t) _ (R.ext ht0 (by exact fx)) hs) ?_;rintro _ w3 ⟨rfl,x3⟩;rw [e0])|(refine zC (d:=some 30) rfl (fZ (M:=M) (N:=N) (l:=l) (cs:=aK t iv ov) (t:=t) _ (hG.ext (by exact fx)) (fun b hb=>nLt (hM b hb) (Ext.size (by exact fx))) (R.ext ht0 (by exact fx)) hs.ins hl) ?_;rw [←hids];rintro vc w4 ⟨oc,x4⟩;have sc:=oc.sl)|refine bL (E:=bB) (l:=ids) rfl (SlE.ext (by exact fx) sc) ?_|refine zL rfl (fun h=>?_) (fun h=>?_)|(refine zC (d:=some 38) rfl (kJ (M:=M) (N:=N) (l:=l) (cs:=aK t iv ov) (t:=t) _ (hG.ext (by exact fx)) (fun b hb=>nLt (hM b hb) (Ext.size (by exact fx))) (R.ext ht0 (by exact fx)) hs.ins hl) ?_;rintro vg w5 ⟨og,x5⟩;have sg:=og.sl)|(refine zC (d:=some 39) rfl (aKv (M:=M) (l:=l) (ids:=aO l (evL l t)) _ (hG.ext (by exact fx)) (fun b hb=>nLt (hM b hb) (Ext.size (by exact fx))) (SlE.ext (by exact fx) sg) (by omega)) ?_;rintro _ w6 ⟨rfl,x6⟩;rw [hfee])|(refine zC (d:=some 44) rfl (aKn 1000 (aQ t) (by decide) hz2.2 _) ?_;rintro _ w7 ⟨rfl,x7⟩;rw [hone])|(refine aJ (fun (i:Nat) w'=>Ext w7 w'∧i≤ids.length) (fun i=> [(0,.pointer (some ⟨g,0,none⟩)),(6,.int .i64 (aQ t:Nat)),(13,.int .i64 (mT l (aQ t:Nat) (xN l t+(aQ t:Nat)) (ids.take i))),(50,vc),(51,.int .i64 (ids.length:Nat)),(52,.int .i64 i)]) (fun i=>ids.length - i) 0 ⟨rfl,rfl,by rw [n0];rfl,rfl,rfl,rfl,trivial⟩ ⟨Ext.refl _,by simp⟩ ?_;rintro i ρ w8 ⟨x8,hi8⟩)|(have hii:i<ids.length:=(by omega);refine aT (d:=some 54) (E:=bB) rfl rfl (n:=i) (l:=ids) (SlE.ext (by exact fx) sc) rfl hii (fun ad r9=>?_);have r9:Row _ ad [Value.string ids[i]]:=r9)|(refine zC (d:=some 59) rfl (nS (M:=M) ids[i] _ (hG.ext (by exact fx)) (fun b hb=>nLt (hM b hb) (Ext.size (by exact fx)))) ?_;rintro v5 w10 ⟨ds,rfl,e5,x10⟩;have hmem:=hin _ (gMe hii);have hpr:=aHa (hE _ hmem);have hff:=hf _ hmem;generalize hX:dI l ids[i]=X at*;obtain ⟨iv2,ov2,rfl,o1,o2,o3⟩:=e5;have i1:=o1.one;have i2:=o2.one)|refine zE (d':=16) (fun _=>rfl) rfl rfl (by simp [bE,i1,i2];exact ⟨rfl,rfl,rfl,rfl,rfl⟩) (fun b6 w11 x11 a11 (r11:Row w11 ⟨b6,0,none⟩ (bE X iv2 ov2)) hb6=>?_))
  ·have h0:l.any (gW t)=false:=hconf.1 (by omega)
   have e1:jR l t=0:=by rw [jR,if_neg (by simpa using hc),if_pos h0]
   have e2:jO l t=0:=by rw [jO,if_neg (by simpa using hc),if_pos h0]
   rw [e1,e2]
   exact aA rfl ⟨rfl,by exact fx⟩
  ·repeat' (first|refine aJ5 (d:=some 69) rfl rfl ?_|(first|refine go2 ?_|fail)|(refine zC (d:=some 68) rfl (aWq (aQ t) X.fee X.size hz2.2 hpr hff _) ?_;rintro _ w12 ⟨rfl,x12⟩))
   refine ⟨i+1,⟨rfl,rfl,?_,rfl,rfl,rfl,trivial⟩,⟨by exact fx,by omega⟩,by omega⟩
   show _=Value.int .i64 (mT l (aQ t:Nat) (xN l t+(aQ t:Nat)) (ids.take (i+1)))
   rw [bIc hii,hX];rfl
  ·have ei:i=ids.length:=by omega
   subst ei
   rw [tLe (Nat.le_refl _),←hnl]
   have h1:l.any (gW t)=true:=by
    cases h9:l.any (gW t) with
    |false=>exact absurd (hconf.2 h9) (by omega)
    |true=>rfl
   cases hg9:bT (iI l t) with
   |false=>
    have e1:jR l t=0:=by rw [jR,if_neg (by simpa using hc),if_neg (by rw [h1];simp),if_neg (by rw [hg9];simp)]
    have e2:jO l t=3:=by rw [jO,if_neg (by simpa using hc),if_neg (by rw [h1];simp),if_neg (by rw [hg9];simp)]
    rw [e1,e2]
    repeat' (first|refine go2 ?_|fail)
    exact aA rfl ⟨rfl,by exact fx⟩
   |true=>
    have e1:jR l t=iI l t:=by rw [jR,if_neg (by simpa using hc),if_neg (by rw [h1];simp),if_pos hg9]
    have e2:jO l t=0:=by rw [jO,if_neg (by simpa using hc),if_neg (by rw [h1];simp),if_pos hg9]
    rw [e1,e2]
    repeat' (first|refine go2 ?_|fail)
    exact aA rfl ⟨rfl,by exact fx⟩
 ·have e0:pG t=.tuple #[.int .i64 0,.int .i64 (aG t)]:=by rw [pG,if_neg hc]
  have e1:jR l t=0:=by rw [jR,if_pos hc]
  have e2:jO l t=aG t:=by rw [jO,if_pos hc]
  rw [e1,e2]
  refine tC rfl ?_
  unfold nT
  refine oy ?_
  repeat' (first|(first|refine go2 ?_|fail)|refine zD (d:=some 3) rfl rfl (fun bt wt xt bt' (rt:Row wt ⟨bt,0,none⟩ (aK t iv ov)) hbt0=>?_)|(refine zC (d:=some 22) rfl (iK (M:=N) (cs:=aK t iv ov) (t:=t) _ (R.ext ht0 (by exact fx)) hs) ?_;rintro _ w3 ⟨rfl,x3⟩;rw [e0])|refine zN (p:=aG t=0) rfl (fun _=>?_) (fun h=>absurd h hc))
  exact aA rfl ⟨rfl,by exact fx⟩
end
end Go.Proofs.YteceapipdhnhdaaGreatDoor
namespace Go.K
section
open Go Go.Proofs.YteceapipdhnhdaaGreatDoor
end
end Go.K
namespace Go.Proofs.YteceapipdhnhdaaGreatDoor
section
open Go Go.K
attribute [local irreducible] aH aM aY KOp.wp K.Spec u32 leS vnS str aP cM bK idT aQ aG aN idN bG cL cB bQ cF fM bU bOg idL
attribute [local irreducible] eA eB wS
end
section
open Go Go.K
attribute [local irreducible] aH aM aY KOp.wp K.Spec u32 leS vnS str aP cM bK idT aQ aG aN idN bG cL cB bQ cF fM dC bV aO kZ fL lI aUq eT aDk yN jA bU mG fA bN
attribute [local irreducible] eE iA
end
end Go.Proofs.YteceapipdhnhdaaGreatDoor
