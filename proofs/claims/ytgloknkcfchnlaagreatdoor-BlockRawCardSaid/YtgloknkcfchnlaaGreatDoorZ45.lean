/- Contracts: numbers in bytes, and locks, by the document. -/
import Derived.Test.YtgloknkcfchnlaaGreatDoorZ43
set_option linter.unusedVariables false
set_option linter.unusedSimpArgs false
namespace Go.Proofs.YtgloknkcfchnlaaGreatDoor
section
open Go Go.K
attribute [local irreducible] aD aK aV KOp.wp K.Spec u32 leS vnS str aN bM bE bU eI hY cC
theorem u64_in {n:Nat} (h:n<18446744073709551616):IntKind.u64.wrap ((n:Nat):Int)=((n:Nat):Int):=dI (by omega) (by omega)
theorem aA7 (s:ByteArray) (a k:Nat) (hk:k=2∨k=4) (hs:a+k≤s.size) (hm:s.size≤100000000) (w:World):K.Spec Tryz.prog F.kedgeref02_Get [.string s,.int .i64 (a:Nat),.int .i64 (k:Nat)] w fun r w'=>r=.tuple #[.int .u64 (bM s a k:Nat),.bool true]∧Ext w w':=by
 have hk4:k≤4:=by omega
 rcases hk with hk|hk
 all_goals
  refine aA4 rfl ?_
  unfold pL
  refine oy ?_
  repeat' (first|(refine aM (fun (i:Nat) w'=>Ext w w'∧i≤k) (fun i=> [(0,.string s),(1,.int .i64 (a:Nat)),(2,.int .i64 (k:Nat)),(8,.int .u64 (bM s a i:Nat)),(9,.int .u64 (256^i:Nat)),(10,.int .i64 (i:Nat))]) (fun i=>k - i) 0 ⟨rfl,rfl,rfl,(by unfold bM;rfl),rfl,rfl,trivial⟩ ⟨Ext.refl _,by omega⟩ ?_;rintro i ρ w3 ⟨x3,hi⟩)|refine go1 ?_|refine zg λ_ _=>?_|refine zi λ_ _=>?_|(first|refine zJ rfl (fun hh=>absurd hh (by omega)) (fun hh=>?_)|refine zJ rfl (fun hh=>?_) (fun hh=>absurd hh (by omega))|refine zJ rfl (fun hh=>?_) (fun hh=>?_)|refine bB rfl (fun hh=>absurd hh (by omega)) (fun hh=>?_)|refine bB rfl (fun hh=>?_) (fun hh=>absurd hh (by omega))|refine bB rfl (fun hh=>?_) (fun hh=>?_))|(first|refine zL rfl (fun hh=>absurd hh (by omega)) (fun _=>?_)|refine zN rfl (fun hh=>absurd hh (by omega)) (fun _=>?_)|refine zz rfl ?_))
  refine zL (x:=.tmp 39) (p:=((i:Nat):Int)<((k:Nat):Int)) rfl (fun h=>?_) (fun h=>?_)
  ·have hik:i<k:=by omega
   have hlt:=eE s i a
   have hp:256^i≤256^3:=Nat.pow_le_pow_right (by decide) (by omega)
   have hsn:=aEq s i a
   have hpow:256^(i+1)=256*256^i:=by rw [Nat.pow_succ];omega
   have hj:a+i<s.size:=by omega
   have hb:=s[a+i].toNat_lt
   rw [fX hj] at hsn
   generalize hP:256^i=p at hp hsn hlt hpow ⊢
   generalize hB:s[a+i].toNat=b at hb hsn
   generalize hN:bM s a i=n at hlt hsn ⊢
   have hbp:b*p≤255*16777216:=Nat.mul_le_mul (by omega) (by omega)
   generalize hbP:b*p=q at hbp hsn
   repeat (first|(refine fA (d:=some 47) (k:=.i64) (n:=a+i) rfl (congrArg (Value.int .i64) (by omega)) hj ?_;rw [hB])|refine aG (d:=some 48) (.int .u64 ((b:Nat):Int)) rfl (congrArg (fun n=>some (Value.int .u64 n)) (u64_in (by omega))) ?_|refine aG (d:=some 50) (.int .u64 ((q:Nat):Int)) rfl (congrArg (fun n=>some (Value.int .u64 n)) (by rw [show ((b:Nat):Int)*((p:Nat):Int)=((q:Nat):Int) by rw [←hbP];push_cast;rfl];exact u64_in (by omega))) ?_|refine aG (d:=some 51) (.int .u64 ((n+q:Nat):Int)) rfl (congrArg (fun n=>some (Value.int .u64 n)) (by rw [show ((n:Nat):Int)+((q:Nat):Int)=((n+q:Nat):Int) by omega];exact u64_in (by omega))) ?_|refine aG (d:=some 53) (.int .u64 ((256*p:Nat):Int)) rfl (congrArg (fun n=>some (Value.int .u64 n)) (by rw [show ((p:Nat):Int)*256=((256*p:Nat):Int) by omega];exact u64_in (by omega))) ?_|refine go1 ?_|refine zg λ_ _=>?_|refine zi λ_ _=>?_)
   exact ⟨i+1,⟨rfl,rfl,rfl,congrArg (fun n:Nat=>Value.int .u64 n) hsn.symm,congrArg (fun n:Nat=>Value.int .u64 n) hpow.symm,rfl,trivial⟩,⟨x3,by omega⟩,by omega⟩
  ·have e:i=k:=by omega
   subst e
   repeat (first|refine go1 ?_|refine zg λ_ _=>?_|refine zi λ_ _=>?_)
   exact aB rfl ⟨rfl,x3⟩
theorem aV1 {s:ByteArray} (h:¬(s.size=9∨s.size=17∨s.size=25)):bU s= []:=by
 unfold bU fH
 simp only [not_or] at h
 simp [h.1,h.2.1,h.2.2]
theorem aOb {s:ByteArray} (h:bE s 0≠pB s):bU s= []:=by
 unfold bU fH
 simp [h]
theorem aQc {s:ByteArray} {j:Nat} (hj:j<pB s) (h:1000000<bM s (5+8*j) 4):bU s= []:=by
 have:(hY s).all aLw=false:=by
  rw [List.all_eq_false]
  refine ⟨sC s j,?_,?_⟩
  ·unfold hY
   exact List.mem_map_of_mem (List.mem_range.2 hj)
  ·show ¬decide ((sC s j).height≤1000000)=true
   rw [decide_eq_true_eq]
   exact Nat.not_le.2 h
 unfold bU
 rw [this];simp
theorem aS1 {s:ByteArray} (h:s.size=9∨s.size=17∨s.size=25) (h0:bE s 0=pB s) (hl:∀j,j<pB s→bM s (5+8*j) 4≤1000000):bU s=(List.range (pB s)).map (sC s):=by
 have h1:fH s=true:=by
  unfold fH
  rw [dTr h0]
  rcases h with h|h|h<;>simp [h]
 have h2:(hY s).all aLw=true:=by
  rw [List.all_eq_true]
  intro b hb
  unfold hY at hb
  obtain ⟨j,hj,rfl⟩:=List.mem_map.1 hb
  exact dTr (hl j (List.mem_range.1 hj))
 unfold bU
 rw [h1,h2];unfold hY;rfl
set_option maxHeartbeats 1000000 in
theorem aVg (s:ByteArray) (hm:s.size≤1000000) (w:World):K.Spec Tryz.prog F.kedgeref08_Get [.string s] w fun r w'=>SlE brE w' r (bU s)∧(∀b∈aH r,w.heap.size≤b)∧Ext w w':=by
 have bad:∀{w':World},Ext w w'→bU s= []→SlE brE w' (.slice none 0 0) (bU s)∧(∀b∈aH (.slice none 0 0),w.heap.size≤b)∧Ext w w':=fun x e=>⟨by rw [e];exact SlE.nil _,fun b hb=>absurd hb (by simp [aH]),x⟩
 by_cases hz:s.size=9∨s.size=17∨s.size=25
 ·have hbase:∀n:Nat,s.size=1+8*n→1≤n→n≤3→pB s=n∧bJ .quo (.int .i64 ((s.size:Int) - 1)) (.int .i64 8)=some (.int .i64 (n:Nat)):=fun n hn hn1 hn3=>by
   refine ⟨by unfold pB;omega,?_⟩
   have e:=aYu ((s.size:Int) - 1) 8 (by decide) (by omega)
   rw [show ((s.size:Nat):Int) - 1=((8*n:Nat):Int) by omega,td,show 8*n / 8=n by omega] at e
   rw [show ((s.size:Nat):Int) - 1=((8*n:Nat):Int) by omega]
   exact e
  have h0s:0<s.size:=by omega
  have hb0:=fX h0s
  have hb8:=s[0].toNat_lt
  generalize hB:s[0].toNat=b at hb0 hb8
  have hz0:=hz
  rcases hz with hz|hz|hz
  all_goals
   obtain ⟨n,hn,hn1,hn3⟩:∃n:Nat,s.size=1+8*n∧1≤n∧n≤3:=by
    first
     |exact ⟨1,by omega,by omega,by omega⟩
     |exact ⟨2,by omega,by omega,by omega⟩
     |exact ⟨3,by omega,by omega,by omega⟩
   obtain ⟨hN,hq⟩:=hbase n hn hn1 hn3
   refine oY rfl ?_
   unfold jM
   refine oy ?_
   repeat' (first|refine oH (d:=some 42) (a:=8) (b:=(i:Nat)) rfl rfl (by omega) ?_|refine cO (d:=some 28) rfl rfl hq ?_|(refine fA (d:=some 30) (k:=.i64) (n:=0) rfl rfl h0s ?_;rw [hB])|refine aG (d:=some 31) (.int .i64 (b:Nat)) rfl (congrArg (fun n=>some (Value.int .i64 n)) (mO (by omega))) ?_|refine zN (x:=.tmp 33) (p:=((b:Nat):Int)=((n:Nat):Int)) rfl (fun h=>?_) (fun h=>?_)|(refine aM (fun (p:Nat × Value) w'=>Ext w w'∧p.1≤n∧Own brE T.api_Branch w.heap.size w' p.2 ((List.range p.1).map (sC s))∧∀j,j<p.1→bM s (5+8*j) 4≤1000000) (fun p=> [(0,.string s),(3,.int .i64 (n:Nat)),(4,p.2),(5,.int .i64 (p.1:Nat))]) (fun p=>n - p.1) (0,.slice none 0 0) ⟨rfl,rfl,rfl,rfl,trivial⟩ ⟨Ext.refl _,by simp,Own.nil _ _ _,fun j hj=>absurd hj (by simp)⟩ ?_;rintro ⟨i,v4⟩ ρ w3 ⟨x3,hi,ho,hlow⟩;simp only at hi ho hlow;dsimp only)|refine zL (x:=.tmp 36) (p:=((i:Nat):Int)<((n:Nat):Int)) rfl (fun h=>?_) (fun h=>?_)|refine go1 ?_|refine zg λ_ _=>?_|refine zi λ_ _=>?_|(first|refine zJ rfl (fun hh=>absurd hh (by omega)) (fun hh=>?_)|refine zJ rfl (fun hh=>?_) (fun hh=>absurd hh (by omega))|refine zJ rfl (fun hh=>?_) (fun hh=>?_)|refine bB rfl (fun hh=>absurd hh (by omega)) (fun hh=>?_)|refine bB rfl (fun hh=>?_) (fun hh=>absurd hh (by omega))|refine bB rfl (fun hh=>?_) (fun hh=>?_))|(first|refine zL rfl (fun hh=>absurd hh (by omega)) (fun _=>?_)|refine zN rfl (fun hh=>absurd hh (by omega)) (fun _=>?_)|refine zz rfl ?_))
   ·exact aB rfl (bad (Ext.refl _) (aOb (by rw [hb0,hN];omega)))
   ·have hin:i<n:=by omega
    have q1:=eE s 2 (1+8*i)
    have q2:=eE s 2 (3+8*i)
    have q3:=eE s 4 (5+8*i)
    repeat' (first|refine oH (d:=some 42) (a:=8) (b:=(i:Nat)) rfl rfl (by omega) ?_|refine oH (d:=some 50) (a:=8) (b:=(i:Nat)) rfl rfl (by omega) ?_|refine oH (d:=some 58) (a:=8) (b:=(i:Nat)) rfl rfl (by omega) ?_|(refine zC (d:=some 44) (congrArg (fun z=> [Value.string s,Value.int .i64 z,Value.int .i64 2]) (by omega)) (aA7 s (1+8*i) 2 (by decide) (by omega) (by omega) _) ?_;rintro _ w4 ⟨rfl,x4⟩)|(refine zC (d:=some 52) (congrArg (fun z=> [Value.string s,Value.int .i64 z,Value.int .i64 2]) (by omega)) (aA7 s (3+8*i) 2 (by decide) (by omega) (by omega) _) ?_;rintro _ w5 ⟨rfl,x5⟩)|(refine zC (d:=some 60) (congrArg (fun z=> [Value.string s,Value.int .i64 z,Value.int .i64 4]) (by omega)) (aA7 s (5+8*i) 4 (by decide) (by omega) (by omega) _) ?_;rintro _ w6 ⟨rfl,x6⟩)|refine zL (x:=.tmp 64) (p:=((bM s (5+8*i) 4:Nat):Int)>1000000) rfl (fun h6=>?_) (fun h6=>?_)|refine aG (d:=some 67) (.int .u16 (bM s (1+8*i) 2:Nat)) rfl (congrArg (fun n=>some (Value.int .u16 n)) (tD q1)) ?_|refine aG (d:=some 69) (.int .u16 (bM s (3+8*i) 2:Nat)) rfl (congrArg (fun n=>some (Value.int .u16 n)) (tD q2)) ?_|refine aG (d:=some 71) (.int .u32 (bM s (5+8*i) 4:Nat)) rfl (congrArg (fun n=>some (Value.int .u32 n)) (aFn q3)) ?_|refine bR (d:=some 72) (cs:=brE.f (sC s i)) rfl ?_|refine zI (d:=some 73) (cs:=brE.f (sC s i)) rfl (fun b9 w9 x9 a9 hb9=>?_)|refine bK (d:=some 74) (E:=brE) (v:=v4) (l2:= [sC s i]) rfl (ho.ext (by exact fx)) (Ext.size (w:=w) (by exact fx)) rfl rfl (dG a9 rfl) rfl rfl (by simp;omega) (fun v10 w10 o10 c10=>?_)|refine go1 ?_|refine zg λ_ _=>?_|refine zi λ_ _=>?_)
    ·exact aB rfl (bad (by exact fx) (aQc (by rw [hN];exact hin) (by omega)))
    ·refine ⟨(i+1,v10),⟨rfl,rfl,rfl,rfl,trivial⟩,⟨(Ext.chg (w:=w) (by exact fx) c10).mono (fun b hb=>.inr (ho.base b hb)),by simp only;omega,by simp only;rw [aKn];exact o10,fun j hj=>?_⟩,by simp only;omega⟩
     simp only at hj
     rcases Nat.lt_or_ge j i with h7|h7
     ·exact hlow j h7
     ·have:j=i:=by omega
      subst this;omega
   ·have ei:i=n:=by omega
    subst ei
    have e:=aS1 hz0 (by rw [hb0,hN];omega) (fun j hj=>hlow j (by omega))
    rw [hN] at e
    rw [e]
    repeat' (first|refine go1 ?_|refine zg λ_ _=>?_|refine zi λ_ _=>?_)
    exact aB rfl ⟨ho.sl,ho.base,x3⟩
 ·have e:=aV1 hz
  simp only [not_or] at hz
  refine oY rfl ?_
  unfold jM
  refine oy ?_
  repeat' (first|refine go1 ?_|refine zg λ_ _=>?_|refine zi λ_ _=>?_|(first|refine zJ rfl (fun hh=>absurd hh (by omega)) (fun hh=>?_)|refine zJ rfl (fun hh=>?_) (fun hh=>absurd hh (by omega))|refine zJ rfl (fun hh=>?_) (fun hh=>?_)|refine bB rfl (fun hh=>absurd hh (by omega)) (fun hh=>?_)|refine bB rfl (fun hh=>?_) (fun hh=>absurd hh (by omega))|refine bB rfl (fun hh=>?_) (fun hh=>?_))|(first|refine zL rfl (fun _=>?_) (fun hh=>absurd (by omega) hh)|refine zN rfl (fun _=>?_) (fun hh=>absurd hh (by omega))|refine zy rfl ?_))
  all_goals exact aB rfl (bad (Ext.refl _) e)
theorem aIv {l:List ByteArray} (h:¬(l.length=1∧(l.headD default).size=3∧bE (l.headD default) 0<3)):eI l=none:=by unfold eI;rw [if_neg h]
def sgV (l:List ByteArray):Value:=match eI l with
 |none=>.tuple #[.int .i64 (-1),.int .i64 0]
 |some p=>.tuple #[.int .i64 (p.1:Nat),.int .i64 (p.2:Nat)]
theorem aU6 {v:Value} {l:List ByteArray} (w:World) (hv:SlE jD w v l) (hz:∀z∈l,z.size≤1000000):K.Spec Tryz.prog F.kedgeref08_Signed [v] w fun r w'=>r=sgV l∧Ext w w':=by
 have bad:eI l=none→sgV l=.tuple #[.int .i64 (-1),.int .i64 0]:=fun e=>by unfold sgV;rw [e]
 by_cases h1:l.length=1
 ·obtain ⟨z,rfl⟩:=List.length_eq_one_iff.1 h1
  by_cases h3:z.size=3
  ·have b0:=fX (s:=z) (i:=0) (by omega)
   have b1:=fX (s:=z) (i:=1) (by omega)
   have b2:=fX (s:=z) (i:=2) (by omega)
   have l0:=z[0].toNat_lt
   have l1:=z[1].toNat_lt
   have l2:=z[2].toNat_lt
   by_cases h0:bE z 0<3
   ·have e:sgV [z]=.tuple #[.int .i64 (bE z 0:Nat),.int .i64 (bM z 1 2:Nat)]:=by
     unfold sgV
     have:eI [z]=some (bE z 0,bM z 1 2):=by unfold eI;rw [if_pos ⟨rfl,h3,h0⟩];rfl
     rw [this]
    have hn2:=aQv z 1
    rw [e,hn2,b0,b1,show 1+1=2 by rfl,b2]
    rw [b0] at h0
    generalize hc0:z[0].toNat=c0 at*
    generalize hc1:z[1].toNat=c1 at*
    generalize hc2:z[2].toNat=c2 at*
    refine eK rfl ?_
    unfold dJ
    refine oy ?_
    repeat' (first|refine bN (d:=some 5) rfl (SlE.ext (w:=w) (by exact fx) hv) ?_|refine aL (d:=some 9) (E:=jD) rfl rfl (n:=0) (l:= [z]) (SlE.ext (w:=w) (by exact fx) hv) rfl (by simp) (fun ad9 (r9:Row _ ad9 [Value.string z])=>?_)|refine aL (d:=some 16) (E:=jD) rfl rfl (n:=0) (l:= [z]) (SlE.ext (w:=w) (by exact fx) hv) rfl (by simp) (fun ad16 (r16:Row _ ad16 [Value.string z])=>?_)|refine aL (d:=some 22) (E:=jD) rfl rfl (n:=0) (l:= [z]) (SlE.ext (w:=w) (by exact fx) hv) rfl (by simp) (fun ad22 (r22:Row _ ad22 [Value.string z])=>?_)|refine aL (d:=some 27) (E:=jD) rfl rfl (n:=0) (l:= [z]) (SlE.ext (w:=w) (by exact fx) hv) rfl (by simp) (fun ad27 (r27:Row _ ad27 [Value.string z])=>?_)|refine aL (d:=some 32) (E:=jD) rfl rfl (n:=0) (l:= [z]) (SlE.ext (w:=w) (by exact fx) hv) rfl (by simp) (fun ad32 (r32:Row _ ad32 [Value.string z])=>?_)|(refine fA (d:=some 18) (k:=.i64) (n:=0) rfl rfl (by omega) ?_;rw [hc0])|(refine fA (d:=some 24) (k:=.i64) (n:=0) rfl rfl (by omega) ?_;rw [hc0])|(refine fA (d:=some 29) (k:=.i64) (n:=1) rfl rfl (by omega) ?_;rw [hc1])|(refine fA (d:=some 34) (k:=.i64) (n:=2) rfl rfl (by omega) ?_;rw [hc2])|refine aG (d:=some 25) (.int .i64 (c0:Nat)) rfl (congrArg (fun n=>some (Value.int .i64 n)) (mO (by omega))) ?_|refine aG (d:=some 30) (.int .i64 (c1:Nat)) rfl (congrArg (fun n=>some (Value.int .i64 n)) (mO (by omega))) ?_|refine aG (d:=some 35) (.int .i64 (c2:Nat)) rfl (congrArg (fun n=>some (Value.int .i64 n)) (mO (by omega))) ?_|refine oH (d:=some 36) (a:=256) (b:=(c2:Nat)) rfl rfl (by omega) ?_|refine aG (d:=some 37) (.int .i64 ((c1+256*c2:Nat):Int)) rfl (congrArg (fun n=>some (Value.int .i64 n)) (by rw [show ((c1:Nat):Int)+256*((c2:Nat):Int)=((c1+256*c2:Nat):Int) by omega];exact IntWalk.i64_in _ (by omega))) ?_|refine go1 ?_|refine zg λ_ _=>?_|refine zi λ_ _=>?_|(first|refine zJ rfl (fun hh=>absurd hh (by omega)) (fun hh=>?_)|refine zJ rfl (fun hh=>?_) (fun hh=>absurd hh (by omega))|refine zJ rfl (fun hh=>?_) (fun hh=>?_)|refine bB rfl (fun hh=>absurd hh (by omega)) (fun hh=>?_)|refine bB rfl (fun hh=>?_) (fun hh=>absurd hh (by omega))|refine bB rfl (fun hh=>?_) (fun hh=>?_))|(first|refine zL rfl (fun hh=>absurd hh (by omega)) (fun _=>?_)|refine zN rfl (fun hh=>absurd hh (by omega)) (fun _=>?_)|refine zz rfl ?_))
    exact aB rfl ⟨rfl,by exact fx⟩
   ·have e:=bad (aIv (fun q=>h0 q.2.2))
    rw [e]
    rw [b0] at h0
    generalize hc0:z[0].toNat=c0 at*
    refine eK rfl ?_
    unfold dJ
    refine oy ?_
    repeat' (first|refine bN (d:=some 5) rfl (SlE.ext (w:=w) (by exact fx) hv) ?_|refine aL (d:=some 9) (E:=jD) rfl rfl (n:=0) (l:= [z]) (SlE.ext (w:=w) (by exact fx) hv) rfl (by simp) (fun ad9 (r9:Row _ ad9 [Value.string z])=>?_)|refine aL (d:=some 16) (E:=jD) rfl rfl (n:=0) (l:= [z]) (SlE.ext (w:=w) (by exact fx) hv) rfl (by simp) (fun ad16 (r16:Row _ ad16 [Value.string z])=>?_)|(refine fA (d:=some 18) (k:=.i64) (n:=0) rfl rfl (by omega) ?_;rw [hc0])|refine go1 ?_|refine zg λ_ _=>?_|refine zi λ_ _=>?_|(first|refine zJ rfl (fun hh=>absurd hh (by omega)) (fun hh=>?_)|refine zJ rfl (fun hh=>?_) (fun hh=>absurd hh (by omega))|refine zJ rfl (fun hh=>?_) (fun hh=>?_)|refine bB rfl (fun hh=>absurd hh (by omega)) (fun hh=>?_)|refine bB rfl (fun hh=>?_) (fun hh=>absurd hh (by omega))|refine bB rfl (fun hh=>?_) (fun hh=>?_))|(first|refine zL rfl (fun _=>?_) (fun hh=>absurd (by omega) hh)|refine zN rfl (fun _=>?_) (fun hh=>absurd hh (by omega))|refine zy rfl ?_))
    exact aB rfl ⟨rfl,by exact fx⟩
  ·have e:=bad (aIv (l:= [z]) (fun q=>h3 q.2.1))
   rw [e]
   refine eK rfl ?_
   unfold dJ
   refine oy ?_
   repeat' (first|refine bN (d:=some 5) rfl (SlE.ext (w:=w) (by exact fx) hv) ?_|refine aL (d:=some 9) (E:=jD) rfl rfl (n:=0) (l:= [z]) (SlE.ext (w:=w) (by exact fx) hv) rfl (by simp) (fun ad9 (r9:Row _ ad9 [Value.string z])=>?_)|refine go1 ?_|refine zg λ_ _=>?_|refine zi λ_ _=>?_|(first|refine zJ rfl (fun hh=>absurd hh (by omega)) (fun hh=>?_)|refine zJ rfl (fun hh=>?_) (fun hh=>absurd hh (by omega))|refine zJ rfl (fun hh=>?_) (fun hh=>?_)|refine bB rfl (fun hh=>absurd hh (by omega)) (fun hh=>?_)|refine bB rfl (fun hh=>?_) (fun hh=>absurd hh (by omega))|refine bB rfl (fun hh=>?_) (fun hh=>?_))|(first|refine zL rfl (fun _=>?_) (fun hh=>absurd (by omega) hh)|refine zN rfl (fun _=>?_) (fun hh=>absurd hh (by omega))|refine zy rfl ?_))
   all_goals exact aB rfl ⟨rfl,by exact fx⟩
 ·have e:=bad (aIv (fun q=>h1 q.1))
  rw [e]
  refine eK rfl ?_
  unfold dJ
  refine oy ?_
  repeat' (first|refine bN (d:=some 5) rfl (SlE.ext (w:=w) (by exact fx) hv) ?_|refine go1 ?_|refine zg λ_ _=>?_|refine zi λ_ _=>?_|(first|refine zJ rfl (fun hh=>absurd hh (by omega)) (fun hh=>?_)|refine zJ rfl (fun hh=>?_) (fun hh=>absurd hh (by omega))|refine zJ rfl (fun hh=>?_) (fun hh=>?_)|refine bB rfl (fun hh=>absurd hh (by omega)) (fun hh=>?_)|refine bB rfl (fun hh=>?_) (fun hh=>absurd hh (by omega))|refine bB rfl (fun hh=>?_) (fun hh=>?_))|(first|refine zL rfl (fun _=>?_) (fun hh=>absurd (by omega) hh)|refine zN rfl (fun _=>?_) (fun hh=>absurd hh (by omega))|refine zy rfl ?_))
  all_goals exact aB rfl ⟨rfl,by exact fx⟩
end
end Go.Proofs.YtgloknkcfchnlaaGreatDoor
