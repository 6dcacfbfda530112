/- Contracts: numbers in bytes, and locks, by the document. -/
import Derived.Test.YtgloknkcfchnlabGreatDoorZ41
set_option linter.unusedVariables false
set_option linter.unusedSimpArgs false
namespace Go.Proofs.YtgloknkcfchnlabGreatDoor
section
open Go Go.K
attribute [local irreducible] aG aK aU KOp.wp K.Spec u32 leS vnS str aN bN bJ bX eU iG cD
theorem u64_in {n:Nat} (h:n<18446744073709551616):IntKind.u64.wrap ((n:Nat):Int)=((n:Nat):Int):=dO (by omega) (by omega)
theorem aBp (s:ByteArray) (a k:Nat) (hk:k=2∨k=4) (hs:a+k≤s.size) (hm:s.size≤100000000) (w:World):K.Spec Tryz.prog F.kedgeref02_Get [.string s,.int .i64 (a:Nat),.int .i64 (k:Nat)] w fun r w'=>r=.tuple #[.int .u64 (bN s a k:Nat),.bool true]∧Ext w w':=by
 have hk4:k≤4:=by omega
 rcases hk with hk|hk
 all_goals
  refine aBn rfl ?_
  unfold pS
  refine oy ?_
  repeat' (first|(refine aL (fun (i:Nat) w'=>Ext w w'∧i≤k) (fun i=> [(0,.string s),(1,.int .i64 (a:Nat)),(2,.int .i64 (k:Nat)),(8,.int .u64 (bN s a i:Nat)),(9,.int .u64 (256^i:Nat)),(10,.int .i64 (i:Nat))]) (fun i=>k - i) 0 ⟨rfl,rfl,rfl,(by unfold bN;rfl),rfl,rfl,trivial⟩ ⟨Ext.refl _,by omega⟩ ?_;rintro i ρ w3 ⟨x3,hi⟩)|refine go1 ?_|refine zg λ_ _=>?_|refine zi λ_ _=>?_|(first|refine zJ rfl (fun hh=>absurd hh (by omega)) (fun hh=>?_)|refine zJ rfl (fun hh=>?_) (fun hh=>absurd hh (by omega))|refine zJ rfl (fun hh=>?_) (fun hh=>?_)|refine aZ rfl (fun hh=>absurd hh (by omega)) (fun hh=>?_)|refine aZ rfl (fun hh=>?_) (fun hh=>absurd hh (by omega))|refine aZ rfl (fun hh=>?_) (fun hh=>?_))|(first|refine zL rfl (fun hh=>absurd hh (by omega)) (fun _=>?_)|refine zN rfl (fun hh=>absurd hh (by omega)) (fun _=>?_)|refine zz rfl ?_))
  refine zL (x:=.tmp 39) (p:=((i:Nat):Int)<((k:Nat):Int)) rfl (fun h=>?_) (fun h=>?_)
  ·have hik:i<k:=by omega
   have hlt:=eO s i a
   have hp:256^i≤256^3:=Nat.pow_le_pow_right (by decide) (by omega)
   have hsn:=aFd s i a
   have hpow:256^(i+1)=256*256^i:=by rw [Nat.pow_succ];omega
   have hj:a+i<s.size:=by omega
   have hb:=s[a+i].toNat_lt
   rw [gK hj] at hsn
   generalize hP:256^i=p at hp hsn hlt hpow ⊢
   generalize hB:s[a+i].toNat=b at hb hsn
   generalize hN:bN s a i=n at hlt hsn ⊢
   have hbp:b*p≤255*16777216:=Nat.mul_le_mul (by omega) (by omega)
   generalize hbP:b*p=q at hbp hsn
   repeat (first|(refine fL (d:=some 47) (k:=.i64) (n:=a+i) rfl (congrArg (Value.int .i64) (by omega)) hj ?_;rw [hB])|refine aD (d:=some 48) (.int .u64 ((b:Nat):Int)) rfl (congrArg (fun n=>some (Value.int .u64 n)) (u64_in (by omega))) ?_|refine aD (d:=some 50) (.int .u64 ((q:Nat):Int)) rfl (congrArg (fun n=>some (Value.int .u64 n)) (by rw [show ((b:Nat):Int)*((p:Nat):Int)=((q:Nat):Int) by rw [←hbP];push_cast;rfl];exact u64_in (by omega))) ?_|refine aD (d:=some 51) (.int .u64 ((n+q:Nat):Int)) rfl (congrArg (fun n=>some (Value.int .u64 n)) (by rw [show ((n:Nat):Int)+((q:Nat):Int)=((n+q:Nat):Int) by omega];exact u64_in (by omega))) ?_|refine aD (d:=some 53) (.int .u64 ((256*p:Nat):Int)) rfl (congrArg (fun n=>some (Value.int .u64 n)) (by rw [show ((p:Nat):Int)*256=((256*p:Nat):Int) by omega];exact u64_in (by omega))) ?_|refine go1 ?_|refine zg λ_ _=>?_|refine zi λ_ _=>?_)
   exact ⟨i+1,⟨rfl,rfl,rfl,congrArg (fun n:Nat=>Value.int .u64 n) hsn.symm,congrArg (fun n:Nat=>Value.int .u64 n) hpow.symm,rfl,trivial⟩,⟨x3,by omega⟩,by omega⟩
  ·have e:i=k:=by omega
   subst e
   repeat (first|refine go1 ?_|refine zg λ_ _=>?_|refine zi λ_ _=>?_)
   exact aB rfl ⟨rfl,x3⟩
theorem aW4 {s:ByteArray} (h:¬(s.size=9∨s.size=17∨s.size=25)):bX s= []:=by
 unfold bX fQ
 simp only [not_or] at h
 simp [h.1,h.2.1,h.2.2]
theorem aO8 {s:ByteArray} (h:bJ s 0≠pG s):bX s= []:=by
 unfold bX fQ
 simp [h]
theorem aRa {s:ByteArray} {j:Nat} (hj:j<pG s) (h:1000000<bN s (5+8*j) 4):bX s= []:=by
 have:(iG s).all aMt=false:=by
  rw [List.all_eq_false]
  refine ⟨sH s j,?_,?_⟩
  ·unfold iG
   exact List.mem_map_of_mem (List.mem_range.2 hj)
  ·show ¬decide ((sH s j).height≤1000000)=true
   rw [decide_eq_true_eq]
   exact Nat.not_le.2 h
 unfold bX
 rw [this];simp
theorem aTu {s:ByteArray} (h:s.size=9∨s.size=17∨s.size=25) (h0:bJ s 0=pG s) (hl:∀j,j<pG s→bN s (5+8*j) 4≤1000000):bX s=(List.range (pG s)).map (sH s):=by
 have h1:fQ s=true:=by
  unfold fQ
  rw [dTr h0]
  rcases h with h|h|h<;>simp [h]
 have h2:(iG s).all aMt=true:=by
  rw [List.all_eq_true]
  intro b hb
  unfold iG at hb
  obtain ⟨j,hj,rfl⟩:=List.mem_map.1 hb
  exact dTr (hl j (List.mem_range.1 hj))
 unfold bX
 rw [h1,h2];unfold iG;rfl
set_option maxHeartbeats 1000000 in
theorem aWk (s:ByteArray) (hm:s.size≤1000000) (w:World):K.Spec Tryz.prog F.kedgeref08_Get [.string s] w fun r w'=>SlE brE w' r (bX s)∧(∀b∈aH r,w.heap.size≤b)∧Ext w w':=by
 have bad:∀{w':World},Ext w w'→bX s= []→SlE brE w' (.slice none 0 0) (bX s)∧(∀b∈aH (.slice none 0 0),w.heap.size≤b)∧Ext w w':=fun x e=>⟨by rw [e];exact SlE.nil _,fun b hb=>absurd hb (by simp [aH]),x⟩
 by_cases hz:s.size=9∨s.size=17∨s.size=25
 ·have hbase:∀n:Nat,s.size=1+8*n→1≤n→n≤3→pG s=n∧bL .quo (.int .i64 ((s.size:Int) - 1)) (.int .i64 8)=some (.int .i64 (n:Nat)):=fun n hn hn1 hn3=>by
   refine ⟨by unfold pG;omega,?_⟩
   have e:=aZ0 ((s.size:Int) - 1) 8 (by decide) (by omega)
   rw [show ((s.size:Nat):Int) - 1=((8*n:Nat):Int) by omega,td,show 8*n / 8=n by omega] at e
   rw [show ((s.size:Nat):Int) - 1=((8*n:Nat):Int) by omega]
   exact e
  have h0s:0<s.size:=by omega
  have hb0:=gK h0s
  have hb8:=s[0].toNat_lt
  generalize hB:s[0].toNat=b at hb0 hb8
  have hz0:=hz
  rcases hz with hz|hz|hz
  all_goals
   obtain ⟨n,hn,hn1,hn3⟩:∃n:Nat,s.size=1+8*n∧1≤n∧n≤3:=by
    first
     |exact ⟨1,by omega,by omega,by omega⟩
     |exact ⟨2,by omega,by omega,by omega⟩
     |exact ⟨3,by omega,by omega,by omega⟩
   obtain ⟨hN,hq⟩:=hbase n hn hn1 hn3
   refine pD rfl ?_
   unfold jS
   refine oy ?_
   repeat' (first|refine oO (d:=some 42) (a:=8) (b:=(i:Nat)) rfl rfl (by omega) ?_|refine cM (d:=some 28) rfl rfl hq ?_|(refine fL (d:=some 30) (k:=.i64) (n:=0) rfl rfl h0s ?_;rw [hB])|refine aD (d:=some 31) (.int .i64 (b:Nat)) rfl (congrArg (fun n=>some (Value.int .i64 n)) (mW (by omega))) ?_|refine zN (x:=.tmp 33) (p:=((b:Nat):Int)=((n:Nat):Int)) rfl (fun h=>?_) (fun h=>?_)|(refine aL (fun (p:Nat × Value) w'=>Ext w w'∧p.1≤n∧Own brE T.api_Branch w.heap.size w' p.2 ((List.range p.1).map (sH s))∧∀j,j<p.1→bN s (5+8*j) 4≤1000000) (fun p=> [(0,.string s),(3,.int .i64 (n:Nat)),(4,p.2),(5,.int .i64 (p.1:Nat))]) (fun p=>n - p.1) (0,.slice none 0 0) ⟨rfl,rfl,rfl,rfl,trivial⟩ ⟨Ext.refl _,by simp,Own.nil _ _ _,fun j hj=>absurd hj (by simp)⟩ ?_;rintro ⟨i,v4⟩ ρ w3 ⟨x3,hi,ho,hlow⟩;simp only at hi ho hlow;dsimp only)|refine zL (x:=.tmp 36) (p:=((i:Nat):Int)<((n:Nat):Int)) rfl (fun h=>?_) (fun h=>?_)|refine go1 ?_|refine zg λ_ _=>?_|refine zi λ_ _=>?_|(first|refine zJ rfl (fun hh=>absurd hh (by omega)) (fun hh=>?_)|refine zJ rfl (fun hh=>?_) (fun hh=>absurd hh (by omega))|refine zJ rfl (fun hh=>?_) (fun hh=>?_)|refine aZ rfl (fun hh=>absurd hh (by omega)) (fun hh=>?_)|refine aZ rfl (fun hh=>?_) (fun hh=>absurd hh (by omega))|refine aZ rfl (fun hh=>?_) (fun hh=>?_))|(first|refine zL rfl (fun hh=>absurd hh (by omega)) (fun _=>?_)|refine zN rfl (fun hh=>absurd hh (by omega)) (fun _=>?_)|refine zz rfl ?_))
   ·exact aB rfl (bad (Ext.refl _) (aO8 (by rw [hb0,hN];omega)))
   ·have hin:i<n:=by omega
    have q1:=eO s 2 (1+8*i)
    have q2:=eO s 2 (3+8*i)
    have q3:=eO s 4 (5+8*i)
    repeat' (first|refine oO (d:=some 42) (a:=8) (b:=(i:Nat)) rfl rfl (by omega) ?_|refine oO (d:=some 50) (a:=8) (b:=(i:Nat)) rfl rfl (by omega) ?_|refine oO (d:=some 58) (a:=8) (b:=(i:Nat)) rfl rfl (by omega) ?_|(refine zC (d:=some 44) (congrArg (fun z=> [Value.string s,Value.int .i64 z,Value.int .i64 2]) (by omega)) (aBp s (1+8*i) 2 (by decide) (by omega) (by omega) _) ?_;rintro _ w4 ⟨rfl,x4⟩)|(refine zC (d:=some 52) (congrArg (fun z=> [Value.string s,Value.int .i64 z,Value.int .i64 2]) (by omega)) (aBp s (3+8*i) 2 (by decide) (by omega) (by omega) _) ?_;rintro _ w5 ⟨rfl,x5⟩)|(refine zC (d:=some 60) (congrArg (fun z=> [Value.string s,Value.int .i64 z,Value.int .i64 4]) (by omega)) (aBp s (5+8*i) 4 (by decide) (by omega) (by omega) _) ?_;rintro _ w6 ⟨rfl,x6⟩)|refine zL (x:=.tmp 64) (p:=((bN s (5+8*i) 4:Nat):Int)>1000000) rfl (fun h6=>?_) (fun h6=>?_)|refine aD (d:=some 67) (.int .u16 (bN s (1+8*i) 2:Nat)) rfl (congrArg (fun n=>some (Value.int .u16 n)) (tI q1)) ?_|refine aD (d:=some 69) (.int .u16 (bN s (3+8*i) 2:Nat)) rfl (congrArg (fun n=>some (Value.int .u16 n)) (tI q2)) ?_|refine aD (d:=some 71) (.int .u32 (bN s (5+8*i) 4:Nat)) rfl (congrArg (fun n=>some (Value.int .u32 n)) (aGe q3)) ?_|refine bT (d:=some 72) (cs:=brE.f (sH s i)) rfl ?_|refine zI (d:=some 73) (cs:=brE.f (sH s i)) rfl (fun b9 w9 x9 a9 hb9=>?_)|refine bY (d:=some 74) (E:=brE) (v:=v4) (l2:= [sH s i]) rfl (ho.ext (by exact fx)) (Ext.size (w:=w) (by exact fx)) rfl rfl (eH a9 rfl) rfl rfl (by simp;omega) (fun v10 w10 o10 c10=>?_)|refine go1 ?_|refine zg λ_ _=>?_|refine zi λ_ _=>?_)
    ·exact aB rfl (bad (by exact fx) (aRa (by rw [hN];exact hin) (by omega)))
    ·refine ⟨(i+1,v10),⟨rfl,rfl,rfl,rfl,trivial⟩,⟨(Ext.chg (w:=w) (by exact fx) c10).mono (fun b hb=>.inr (ho.base b hb)),by simp only;omega,by simp only;rw [aLj];exact o10,fun j hj=>?_⟩,by simp only;omega⟩
     simp only at hj
     rcases Nat.lt_or_ge j i with h7|h7
     ·exact hlow j h7
     ·have:j=i:=by omega
      subst this;omega
   ·have ei:i=n:=by omega
    subst ei
    have e:=aTu hz0 (by rw [hb0,hN];omega) (fun j hj=>hlow j (by omega))
    rw [hN] at e
    rw [e]
    repeat' (first|refine go1 ?_|refine zg λ_ _=>?_|refine zi λ_ _=>?_)
    exact aB rfl ⟨ho.sl,ho.base,x3⟩
 ·have e:=aW4 hz
  simp only [not_or] at hz
  refine pD rfl ?_
  unfold jS
  refine oy ?_
  repeat' (first|refine go1 ?_|refine zg λ_ _=>?_|refine zi λ_ _=>?_|(first|refine zJ rfl (fun hh=>absurd hh (by omega)) (fun hh=>?_)|refine zJ rfl (fun hh=>?_) (fun hh=>absurd hh (by omega))|refine zJ rfl (fun hh=>?_) (fun hh=>?_)|refine aZ rfl (fun hh=>absurd hh (by omega)) (fun hh=>?_)|refine aZ rfl (fun hh=>?_) (fun hh=>absurd hh (by omega))|refine aZ rfl (fun hh=>?_) (fun hh=>?_))|(first|refine zL rfl (fun _=>?_) (fun hh=>absurd (by omega) hh)|refine zN rfl (fun _=>?_) (fun hh=>absurd hh (by omega))|refine zy rfl ?_))
  all_goals exact aB rfl (bad (Ext.refl _) e)
theorem aJo {l:List ByteArray} (h:¬(l.length=1∧(l.headD default).size=3∧bJ (l.headD default) 0<3)):eU l=none:=by unfold eU;rw [if_neg h]
def sgV (l:List ByteArray):Value:=match eU l with
 |none=>.tuple #[.int .i64 (-1),.int .i64 0]
 |some p=>.tuple #[.int .i64 (p.1:Nat),.int .i64 (p.2:Nat)]
theorem aV9 {v:Value} {l:List ByteArray} (w:World) (hv:SlE iX w v l) (hz:∀z∈l,z.size≤1000000):K.Spec Tryz.prog F.kedgeref08_Signed [v] w fun r w'=>r=sgV l∧Ext w w':=by
 have bad:eU l=none→sgV l=.tuple #[.int .i64 (-1),.int .i64 0]:=fun e=>by unfold sgV;rw [e]
 by_cases h1:l.length=1
 ·obtain ⟨z,rfl⟩:=List.length_eq_one_iff.1 h1
  by_cases h3:z.size=3
  ·have b0:=gK (s:=z) (i:=0) (by omega)
   have b1:=gK (s:=z) (i:=1) (by omega)
   have b2:=gK (s:=z) (i:=2) (by omega)
   have l0:=z[0].toNat_lt
   have l1:=z[1].toNat_lt
   have l2:=z[2].toNat_lt
   by_cases h0:bJ z 0<3
   ·have e:sgV [z]=.tuple #[.int .i64 (bJ z 0:Nat),.int .i64 (bN z 1 2:Nat)]:=by
     unfold sgV
     have:eU [z]=some (bJ z 0,bN z 1 2):=by unfold eU;rw [if_pos ⟨rfl,h3,h0⟩];rfl
     rw [this]
    have hn2:=aRo z 1
    rw [e,hn2,b0,b1,show 1+1=2 by rfl,b2]
    rw [b0] at h0
    generalize hc0:z[0].toNat=c0 at*
    generalize hc1:z[1].toNat=c1 at*
    generalize hc2:z[2].toNat=c2 at*
    refine eW rfl ?_
    unfold dP
    refine oy ?_
    repeat' (first|refine bP (d:=some 5) rfl (SlE.ext (w:=w) (by exact fx) hv) ?_|refine aQ (d:=some 9) (E:=iX) rfl rfl (n:=0) (l:= [z]) (SlE.ext (w:=w) (by exact fx) hv) rfl (by simp) (fun ad9 (r9:Row _ ad9 [Value.string z])=>?_)|refine aQ (d:=some 16) (E:=iX) rfl rfl (n:=0) (l:= [z]) (SlE.ext (w:=w) (by exact fx) hv) rfl (by simp) (fun ad16 (r16:Row _ ad16 [Value.string z])=>?_)|refine aQ (d:=some 22) (E:=iX) rfl rfl (n:=0) (l:= [z]) (SlE.ext (w:=w) (by exact fx) hv) rfl (by simp) (fun ad22 (r22:Row _ ad22 [Value.string z])=>?_)|refine aQ (d:=some 27) (E:=iX) rfl rfl (n:=0) (l:= [z]) (SlE.ext (w:=w) (by exact fx) hv) rfl (by simp) (fun ad27 (r27:Row _ ad27 [Value.string z])=>?_)|refine aQ (d:=some 32) (E:=iX) rfl rfl (n:=0) (l:= [z]) (SlE.ext (w:=w) (by exact fx) hv) rfl (by simp) (fun ad32 (r32:Row _ ad32 [Value.string z])=>?_)|(refine fL (d:=some 18) (k:=.i64) (n:=0) rfl rfl (by omega) ?_;rw [hc0])|(refine fL (d:=some 24) (k:=.i64) (n:=0) rfl rfl (by omega) ?_;rw [hc0])|(refine fL (d:=some 29) (k:=.i64) (n:=1) rfl rfl (by omega) ?_;rw [hc1])|(refine fL (d:=some 34) (k:=.i64) (n:=2) rfl rfl (by omega) ?_;rw [hc2])|refine aD (d:=some 25) (.int .i64 (c0:Nat)) rfl (congrArg (fun n=>some (Value.int .i64 n)) (mW (by omega))) ?_|refine aD (d:=some 30) (.int .i64 (c1:Nat)) rfl (congrArg (fun n=>some (Value.int .i64 n)) (mW (by omega))) ?_|refine aD (d:=some 35) (.int .i64 (c2:Nat)) rfl (congrArg (fun n=>some (Value.int .i64 n)) (mW (by omega))) ?_|refine oO (d:=some 36) (a:=256) (b:=(c2:Nat)) rfl rfl (by omega) ?_|refine aD (d:=some 37) (.int .i64 ((c1+256*c2:Nat):Int)) rfl (congrArg (fun n=>some (Value.int .i64 n)) (by rw [show ((c1:Nat):Int)+256*((c2:Nat):Int)=((c1+256*c2:Nat):Int) by omega];exact IntWalk.i64_in _ (by omega))) ?_|refine go1 ?_|refine zg λ_ _=>?_|refine zi λ_ _=>?_|(first|refine zJ rfl (fun hh=>absurd hh (by omega)) (fun hh=>?_)|refine zJ rfl (fun hh=>?_) (fun hh=>absurd hh (by omega))|refine zJ rfl (fun hh=>?_) (fun hh=>?_)|refine aZ rfl (fun hh=>absurd hh (by omega)) (fun hh=>?_)|refine aZ rfl (fun hh=>?_) (fun hh=>absurd hh (by omega))|refine aZ rfl (fun hh=>?_) (fun hh=>?_))|(first|refine zL rfl (fun hh=>absurd hh (by omega)) (fun _=>?_)|refine zN rfl (fun hh=>absurd hh (by omega)) (fun _=>?_)|refine zz rfl ?_))
    exact aB rfl ⟨rfl,by exact fx⟩
   ·have e:=bad (aJo (fun q=>h0 q.2.2))
    rw [e]
    rw [b0] at h0
    generalize hc0:z[0].toNat=c0 at*
    refine eW rfl ?_
    unfold dP
    refine oy ?_
    repeat' (first|refine bP (d:=some 5) rfl (SlE.ext (w:=w) (by exact fx) hv) ?_|refine aQ (d:=some 9) (E:=iX) rfl rfl (n:=0) (l:= [z]) (SlE.ext (w:=w) (by exact fx) hv) rfl (by simp) (fun ad9 (r9:Row _ ad9 [Value.string z])=>?_)|refine aQ (d:=some 16) (E:=iX) rfl rfl (n:=0) (l:= [z]) (SlE.ext (w:=w) (by exact fx) hv) rfl (by simp) (fun ad16 (r16:Row _ ad16 [Value.string z])=>?_)|(refine fL (d:=some 18) (k:=.i64) (n:=0) rfl rfl (by omega) ?_;rw [hc0])|refine go1 ?_|refine zg λ_ _=>?_|refine zi λ_ _=>?_|(first|refine zJ rfl (fun hh=>absurd hh (by omega)) (fun hh=>?_)|refine zJ rfl (fun hh=>?_) (fun hh=>absurd hh (by omega))|refine zJ rfl (fun hh=>?_) (fun hh=>?_)|refine aZ rfl (fun hh=>absurd hh (by omega)) (fun hh=>?_)|refine aZ rfl (fun hh=>?_) (fun hh=>absurd hh (by omega))|refine aZ rfl (fun hh=>?_) (fun hh=>?_))|(first|refine zL rfl (fun _=>?_) (fun hh=>absurd (by omega) hh)|refine zN rfl (fun _=>?_) (fun hh=>absurd hh (by omega))|refine zy rfl ?_))
    exact aB rfl ⟨rfl,by exact fx⟩
  ·have e:=bad (aJo (l:= [z]) (fun q=>h3 q.2.1))
   rw [e]
   refine eW rfl ?_
   unfold dP
   refine oy ?_
   repeat' (first|refine bP (d:=some 5) rfl (SlE.ext (w:=w) (by exact fx) hv) ?_|refine aQ (d:=some 9) (E:=iX) rfl rfl (n:=0) (l:= [z]) (SlE.ext (w:=w) (by exact fx) hv) rfl (by simp) (fun ad9 (r9:Row _ ad9 [Value.string z])=>?_)|refine go1 ?_|refine zg λ_ _=>?_|refine zi λ_ _=>?_|(first|refine zJ rfl (fun hh=>absurd hh (by omega)) (fun hh=>?_)|refine zJ rfl (fun hh=>?_) (fun hh=>absurd hh (by omega))|refine zJ rfl (fun hh=>?_) (fun hh=>?_)|refine aZ rfl (fun hh=>absurd hh (by omega)) (fun hh=>?_)|refine aZ rfl (fun hh=>?_) (fun hh=>absurd hh (by omega))|refine aZ rfl (fun hh=>?_) (fun hh=>?_))|(first|refine zL rfl (fun _=>?_) (fun hh=>absurd (by omega) hh)|refine zN rfl (fun _=>?_) (fun hh=>absurd hh (by omega))|refine zy rfl ?_))
   all_goals exact aB rfl ⟨rfl,by exact fx⟩
 ·have e:=bad (aJo (fun q=>h1 q.1))
  rw [e]
  refine eW rfl ?_
  unfold dP
  refine oy ?_
  repeat' (first|refine bP (d:=some 5) rfl (SlE.ext (w:=w) (by exact fx) hv) ?_|refine go1 ?_|refine zg λ_ _=>?_|refine zi λ_ _=>?_|(first|refine zJ rfl (fun hh=>absurd hh (by omega)) (fun hh=>?_)|refine zJ rfl (fun hh=>?_) (fun hh=>absurd hh (by omega))|refine zJ rfl (fun hh=>?_) (fun hh=>?_)|refine aZ rfl (fun hh=>absurd hh (by omega)) (fun hh=>?_)|refine aZ rfl (fun hh=>?_) (fun hh=>absurd hh (by omega))|refine aZ rfl (fun hh=>?_) (fun hh=>?_))|(first|refine zL rfl (fun _=>?_) (fun hh=>absurd (by omega) hh)|refine zN rfl (fun _=>?_) (fun hh=>absurd hh (by omega))|refine zy rfl ?_))
  all_goals exact aB rfl ⟨rfl,by exact fx⟩
end
end Go.Proofs.YtgloknkcfchnlabGreatDoor
