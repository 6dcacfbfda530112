/- Contracts: numbers in bytes, and locks, by the document. -/
import Derived.Test.YteceapipdhnhdaaGreatDoorNa39
set_option linter.unusedVariables false
set_option linter.unusedSimpArgs false
namespace Go.Proofs.YteceapipdhnhdaaGreatDoor
section
open Go Go.K
attribute [local irreducible] aH aM aY KOp.wp K.Spec u32 leS vnS str aP cA bS cO gU lL cX
theorem u64_in {n:Nat} (h:n<18446744073709551616):IntKind.u64.wrap ((n:Nat):Int)=((n:Nat):Int):=eZ (by omega) (by omega)
theorem aJw (s:ByteArray) (a k:Nat) (hk:k=2∨k=4) (hs:a+k≤s.size) (hm:s.size≤100000000) (w:World):K.Spec Tryz.prog F.kedgeref02_Get [.string s,.int .i64 (a:Nat),.int .i64 (k:Nat)] w fun r w'=>r=.tuple #[.int .u64 (cA s a k:Nat),.bool true]∧Ext w w':=by
 have hk4:k≤4:=by omega
 rcases hk with hk|hk
 all_goals
  refine aKm rfl ?_
  unfold yO
  refine oy ?_
  repeat' (first|(refine aJ (fun (i:Nat) w'=>Ext w w'∧i≤k) (fun i=> [(0,.string s),(1,.int .i64 (a:Nat)),(2,.int .i64 (k:Nat)),(8,.int .u64 (cA s a i:Nat)),(9,.int .u64 (256^i:Nat)),(10,.int .i64 (i:Nat))]) (fun i=>k - i) 0 ⟨rfl,rfl,rfl,(by unfold cA;rfl),rfl,rfl,trivial⟩ ⟨Ext.refl _,by omega⟩ ?_;rintro i ρ w3 ⟨x3,hi⟩)|(first|refine go2 ?_|fail)|(first|refine zJ rfl (fun hh=>absurd hh (by omega)) (fun hh=>?_)|refine zJ rfl (fun hh=>?_) (fun hh=>absurd hh (by omega))|refine zJ rfl (fun hh=>?_) (fun hh=>?_)|refine bO rfl (fun hh=>absurd hh (by omega)) (fun hh=>?_)|refine bO rfl (fun hh=>?_) (fun hh=>absurd hh (by omega))|refine bO rfl (fun hh=>?_) (fun hh=>?_))|(first|refine zL rfl (fun hh=>absurd hh (by omega)) (fun _=>?_)|refine zN rfl (fun hh=>absurd hh (by omega)) (fun _=>?_)|refine zz rfl ?_))
  refine zL (x:=.tmp 39) (p:=((i:Nat):Int)<((k:Nat):Int)) rfl (fun h=>?_) (fun h=>?_)
  ·have hik:i<k:=by omega
   have hlt:=gR s i a
   have hp:256^i≤256^3:=Nat.pow_le_pow_right (by decide) (by omega)
   have hsn:=aOa s i a
   have hpow:256^(i+1)=256*256^i:=by rw [Nat.pow_succ];omega
   have hj:a+i<s.size:=by omega
   have hb:=s[a+i].toNat_lt
   rw [kD hj] at hsn
   generalize hP:256^i=p at hp hsn hlt hpow ⊢
   generalize hB:s[a+i].toNat=b at hb hsn
   generalize hN:cA s a i=n at hlt hsn ⊢
   have hbp:b*p≤255*16777216:=Nat.mul_le_mul (by omega) (by omega)
   generalize hbP:b*p=q at hbp hsn
   repeat (first|(refine iT (d:=some 47) (k:=.i64) (n:=a+i) rfl (congrArg (Value.int .i64) (by omega)) hj ?_;rw [hB])|refine aL (d:=some 48) (.int .u64 ((b:Nat):Int)) rfl (congrArg (fun n=>some (Value.int .u64 n)) (u64_in (by omega))) ?_|refine aL (d:=some 50) (.int .u64 ((q:Nat):Int)) rfl (congrArg (fun n=>some (Value.int .u64 n)) (by rw [show ((b:Nat):Int)*((p:Nat):Int)=((q:Nat):Int) by rw [←hbP];push_cast;rfl];exact u64_in (by omega))) ?_|refine aL (d:=some 51) (.int .u64 ((n+q:Nat):Int)) rfl (congrArg (fun n=>some (Value.int .u64 n)) (by rw [show ((n:Nat):Int)+((q:Nat):Int)=((n+q:Nat):Int) by omega];exact u64_in (by omega))) ?_|refine aL (d:=some 53) (.int .u64 ((256*p:Nat):Int)) rfl (congrArg (fun n=>some (Value.int .u64 n)) (by rw [show ((p:Nat):Int)*256=((256*p:Nat):Int) by omega];exact u64_in (by omega))) ?_|(first|refine go2 ?_|fail))
   exact ⟨i+1,⟨rfl,rfl,rfl,congrArg (fun n:Nat=>Value.int .u64 n) hsn.symm,congrArg (fun n:Nat=>Value.int .u64 n) hpow.symm,rfl,trivial⟩,⟨x3,by omega⟩,by omega⟩
  ·have e:i=k:=by omega
   subst e
   repeat (first|refine go2 ?_|fail)
   exact aA rfl ⟨rfl,x3⟩
theorem bMx {s:ByteArray} (h:¬(s.size=9∨s.size=17∨s.size=25)):cO s= []:=by
 unfold cO jC
 simp only [not_or] at h
 simp [h.1,h.2.1,h.2.2]
theorem bDs {s:ByteArray} (h:bS s 0≠xK s):cO s= []:=by
 unfold cO jC
 simp [h]
theorem bG0 {s:ByteArray} {j:Nat} (hj:j<xK s) (h:1000000<cA s (5+8*j) 4):cO s= []:=by
 have:(lL s).all aX4=false:=by
  rw [List.all_eq_false]
  refine ⟨aCv s j,?_,?_⟩
  ·unfold lL
   exact List.mem_map_of_mem (List.mem_range.2 hj)
  ·show ¬decide ((aCv s j).height≤1000000)=true
   rw [decide_eq_true_eq]
   exact Nat.not_le.2 h
 unfold cO
 rw [this];simp
theorem bKq {s:ByteArray} (h:s.size=9∨s.size=17∨s.size=25) (h0:bS s 0=xK s) (hl:∀j,j<xK s→cA s (5+8*j) 4≤1000000):cO s=(List.range (xK s)).map (aCv s):=by
 have h1:jC s=true:=by
  unfold jC
  rw [dTr h0]
  rcases h with h|h|h<;>simp [h]
 have h2:(lL s).all aX4=true:=by
  rw [List.all_eq_true]
  intro b hb
  unfold lL at hb
  obtain ⟨j,hj,rfl⟩:=List.mem_map.1 hb
  exact dTr (hl j (List.mem_range.1 hj))
 unfold cO
 rw [h1,h2];unfold lL;rfl
set_option maxHeartbeats 1000000 in
theorem bMg (s:ByteArray) (hm:s.size≤1000000) (w:World):K.Spec Tryz.prog F.kedgeref08_Get [.string s] w fun r w'=>SlE brE w' r (cO s)∧(∀b∈aC r,w.heap.size≤b)∧Ext w w':=by
 have bad:∀{w':World},Ext w w'→cO s= []→SlE brE w' (.slice none 0 0) (cO s)∧(∀b∈aC (.slice none 0 0),w.heap.size≤b)∧Ext w w':=fun x e=>⟨by rw [e];exact SlE.nil _,fun b hb=>absurd hb (by simp [aC]),x⟩
 by_cases hz:s.size=9∨s.size=17∨s.size=25
 ·have hbase:∀n:Nat,s.size=1+8*n→1≤n→n≤3→xK s=n∧bM .quo (.int .i64 ((s.size:Int) - 1)) (.int .i64 8)=some (.int .i64 (n:Nat)):=fun n hn hn1 hn3=>by
   refine ⟨by unfold xK;omega,?_⟩
   have e:=bO7 ((s.size:Int) - 1) 8 (by decide) (by omega)
   rw [show ((s.size:Nat):Int) - 1=((8*n:Nat):Int) by omega,td,show 8*n / 8=n by omega] at e
   rw [show ((s.size:Nat):Int) - 1=((8*n:Nat):Int) by omega]
   exact e
  have h0s:0<s.size:=by omega
  have hb0:=kD h0s
  have hb8:=s[0].toNat_lt
  generalize hB:s[0].toNat=b at hb0 hb8
  have hz0:=hz
  rcases hz with hz|hz|hz
  all_goals
   obtain ⟨n,hn,hn1,hn3⟩:∃n:Nat,s.size=1+8*n∧1≤n∧n≤3:=by
    first
     |exact ⟨1,by omega,by omega,by omega⟩
     |exact ⟨2,by omega,by omega,by omega⟩
     |exact ⟨3,by omega,by omega,by omega⟩
   obtain ⟨hN,hq⟩:=hbase n hn hn1 hn3
   refine xG rfl ?_
   unfold pT
   refine oy ?_
   repeat' (first|refine tR (d:=some 42) (a:=8) (b:=(i:Nat)) rfl rfl (by omega) ?_|refine dF (d:=some 28) rfl rfl hq ?_|(refine iT (d:=some 30) (k:=.i64) (n:=0) rfl rfl h0s ?_;rw [hB])|refine aL (d:=some 31) (.int .i64 (b:Nat)) rfl (congrArg (fun n=>some (Value.int .i64 n)) (vG (by omega))) ?_|refine zN (x:=.tmp 33) (p:=((b:Nat):Int)=((n:Nat):Int)) rfl (fun h=>?_) (fun h=>?_)|(refine aJ (fun (p:Nat × Value) w'=>Ext w w'∧p.1≤n∧Own brE T.api_Branch w.heap.size w' p.2 ((List.range p.1).map (aCv s))∧∀j,j<p.1→cA s (5+8*j) 4≤1000000) (fun p=> [(0,.string s),(3,.int .i64 (n:Nat)),(4,p.2),(5,.int .i64 (p.1:Nat))]) (fun p=>n - p.1) (0,.slice none 0 0) ⟨rfl,rfl,rfl,rfl,trivial⟩ ⟨Ext.refl _,by simp,Own.nil _ _ _,fun j hj=>absurd hj (by simp)⟩ ?_;rintro ⟨i,v4⟩ ρ w3 ⟨x3,hi,ho,hlow⟩;simp only at hi ho hlow;dsimp only)|refine zL (x:=.tmp 36) (p:=((i:Nat):Int)<((n:Nat):Int)) rfl (fun h=>?_) (fun h=>?_)|(first|refine go2 ?_|fail)|(first|refine zJ rfl (fun hh=>absurd hh (by omega)) (fun hh=>?_)|refine zJ rfl (fun hh=>?_) (fun hh=>absurd hh (by omega))|refine zJ rfl (fun hh=>?_) (fun hh=>?_)|refine bO rfl (fun hh=>absurd hh (by omega)) (fun hh=>?_)|refine bO rfl (fun hh=>?_) (fun hh=>absurd hh (by omega))|refine bO rfl (fun hh=>?_) (fun hh=>?_))|(first|refine zL rfl (fun hh=>absurd hh (by omega)) (fun _=>?_)|refine zN rfl (fun hh=>absurd hh (by omega)) (fun _=>?_)|refine zz rfl ?_))
   ·exact aA rfl (bad (Ext.refl _) (bDs (by rw [hb0,hN];omega)))
   ·have hin:i<n:=by omega
    have q1:=gR s 2 (1+8*i)
    have q2:=gR s 2 (3+8*i)
    have q3:=gR s 4 (5+8*i)
    repeat' (first|refine tR (d:=some 42) (a:=8) (b:=(i:Nat)) rfl rfl (by omega) ?_|refine tR (d:=some 50) (a:=8) (b:=(i:Nat)) rfl rfl (by omega) ?_|refine tR (d:=some 58) (a:=8) (b:=(i:Nat)) rfl rfl (by omega) ?_|(refine zC (d:=some 44) (congrArg (fun z=> [Value.string s,Value.int .i64 z,Value.int .i64 2]) (by omega)) (aJw s (1+8*i) 2 (by decide) (by omega) (by omega) _) ?_;rintro _ w4 ⟨rfl,x4⟩)|(refine zC (d:=some 52) (congrArg (fun z=> [Value.string s,Value.int .i64 z,Value.int .i64 2]) (by omega)) (aJw s (3+8*i) 2 (by decide) (by omega) (by omega) _) ?_;rintro _ w5 ⟨rfl,x5⟩)|(refine zC (d:=some 60) (congrArg (fun z=> [Value.string s,Value.int .i64 z,Value.int .i64 4]) (by omega)) (aJw s (5+8*i) 4 (by decide) (by omega) (by omega) _) ?_;rintro _ w6 ⟨rfl,x6⟩)|refine zL (x:=.tmp 64) (p:=((cA s (5+8*i) 4:Nat):Int)>1000000) rfl (fun h6=>?_) (fun h6=>?_)|refine aL (d:=some 67) (.int .u16 (cA s (1+8*i) 2:Nat)) rfl (congrArg (fun n=>some (Value.int .u16 n)) (aCi q1)) ?_|refine aL (d:=some 69) (.int .u16 (cA s (3+8*i) 2:Nat)) rfl (congrArg (fun n=>some (Value.int .u16 n)) (aCi q2)) ?_|refine aL (d:=some 71) (.int .u32 (cA s (5+8*i) 4:Nat)) rfl (congrArg (fun n=>some (Value.int .u32 n)) (aQn q3)) ?_|refine aZ (d:=some 72) (cs:=brE.f (aCv s i)) rfl ?_|refine zI (d:=some 73) (cs:=brE.f (aCv s i)) rfl (fun b9 w9 x9 a9 hb9=>?_)|refine bZ (d:=some 74) (E:=brE) (v:=v4) (l2:= [aCv s i]) rfl (ho.ext (by exact fx)) (Ext.size (w:=w) (by exact fx)) rfl rfl (dR a9 rfl) rfl rfl (by simp;omega) (fun v10 w10 o10 c10=>?_)|(first|refine go2 ?_|fail))
    ·exact aA rfl (bad (by exact fx) (bG0 (by rw [hN];exact hin) (by omega)))
    ·refine ⟨(i+1,v10),⟨rfl,rfl,rfl,rfl,trivial⟩,⟨(Ext.chg (w:=w) (by exact fx) c10).mono (fun b hb=>.inr (ho.base b hb)),by simp only;omega,by simp only;rw [aW3];exact o10,fun j hj=>?_⟩,by simp only;omega⟩
     simp only at hj
     rcases Nat.lt_or_ge j i with h7|h7
     ·exact hlow j h7
     ·have:j=i:=by omega
      subst this;omega
   ·have ei:i=n:=by omega
    subst ei
    have e:=bKq hz0 (by rw [hb0,hN];omega) (fun j hj=>hlow j (by omega))
    rw [hN] at e
    rw [e]
    repeat' (first|refine go2 ?_|fail)
    exact aA rfl ⟨ho.sl,ho.base,x3⟩
 ·have e:=bMx hz
  simp only [not_or] at hz
  refine xG rfl ?_
  unfold pT
  refine oy ?_
  repeat' (first|(first|refine go2 ?_|fail)|(first|refine zJ rfl (fun hh=>absurd hh (by omega)) (fun hh=>?_)|refine zJ rfl (fun hh=>?_) (fun hh=>absurd hh (by omega))|refine zJ rfl (fun hh=>?_) (fun hh=>?_)|refine bO rfl (fun hh=>absurd hh (by omega)) (fun hh=>?_)|refine bO rfl (fun hh=>?_) (fun hh=>absurd hh (by omega))|refine bO rfl (fun hh=>?_) (fun hh=>?_))|(first|refine zL rfl (fun _=>?_) (fun hh=>absurd (by omega) hh)|refine zN rfl (fun _=>?_) (fun hh=>absurd hh (by omega))|refine zy rfl ?_))
  all_goals exact aA rfl (bad (Ext.refl _) e)
theorem aV3 {l:List ByteArray} (h:¬(l.length=1∧(l.headD default).size=3∧bS (l.headD default) 0<3)):gU l=none:=by unfold gU;rw [if_neg h]
def sgV (l:List ByteArray):Value:=match gU l with
 |none=>.tuple #[.int .i64 (-1),.int .i64 0]
 |some p=>.tuple #[.int .i64 (p.1:Nat),.int .i64 (p.2:Nat)]
theorem bL7 {v:Value} {l:List ByteArray} (w:World) (hv:SlE bB w v l) (hz:∀z∈l,z.size≤1000000):K.Spec Tryz.prog F.kedgeref08_Signed [v] w fun r w'=>r=sgV l∧Ext w w':=by
 have bad:gU l=none→sgV l=.tuple #[.int .i64 (-1),.int .i64 0]:=fun e=>by unfold sgV;rw [e]
 by_cases h1:l.length=1
 ·obtain ⟨z,rfl⟩:=List.length_eq_one_iff.1 h1
  by_cases h3:z.size=3
  ·have b0:=kD (s:=z) (i:=0) (by omega)
   have b1:=kD (s:=z) (i:=1) (by omega)
   have b2:=kD (s:=z) (i:=2) (by omega)
   have l0:=z[0].toNat_lt
   have l1:=z[1].toNat_lt
   have l2:=z[2].toNat_lt
   by_cases h0:bS z 0<3
   ·have e:sgV [z]=.tuple #[.int .i64 (bS z 0:Nat),.int .i64 (cA z 1 2:Nat)]:=by
     unfold sgV
     have:gU [z]=some (bS z 0,cA z 1 2):=by unfold gU;rw [if_pos ⟨rfl,h3,h0⟩];rfl
     rw [this]
    have hn2:=bHc z 1
    rw [e,hn2,b0,b1,show 1+1=2 by rfl,b2]
    rw [b0] at h0
    generalize hc0:z[0].toNat=c0 at*
    generalize hc1:z[1].toNat=c1 at*
    generalize hc2:z[2].toNat=c2 at*
    refine gY rfl ?_
    unfold fI
    refine oy ?_
    repeat' (first|refine bL (d:=some 5) rfl (SlE.ext (w:=w) (by exact fx) hv) ?_|refine aT (d:=some 9) (E:=bB) rfl rfl (n:=0) (l:= [z]) (SlE.ext (w:=w) (by exact fx) hv) rfl (by simp) (fun ad9 (r9:Row _ ad9 [Value.string z])=>?_)|refine aT (d:=some 16) (E:=bB) rfl rfl (n:=0) (l:= [z]) (SlE.ext (w:=w) (by exact fx) hv) rfl (by simp) (fun ad16 (r16:Row _ ad16 [Value.string z])=>?_)|refine aT (d:=some 22) (E:=bB) rfl rfl (n:=0) (l:= [z]) (SlE.ext (w:=w) (by exact fx) hv) rfl (by simp) (fun ad22 (r22:Row _ ad22 [Value.string z])=>?_)|refine aT (d:=some 27) (E:=bB) rfl rfl (n:=0) (l:= [z]) (SlE.ext (w:=w) (by exact fx) hv) rfl (by simp) (fun ad27 (r27:Row _ ad27 [Value.string z])=>?_)|refine aT (d:=some 32) (E:=bB) rfl rfl (n:=0) (l:= [z]) (SlE.ext (w:=w) (by exact fx) hv) rfl (by simp) (fun ad32 (r32:Row _ ad32 [Value.string z])=>?_)|(refine iT (d:=some 18) (k:=.i64) (n:=0) rfl rfl (by omega) ?_;rw [hc0])|(refine iT (d:=some 24) (k:=.i64) (n:=0) rfl rfl (by omega) ?_;rw [hc0])|(refine iT (d:=some 29) (k:=.i64) (n:=1) rfl rfl (by omega) ?_;rw [hc1])|(refine iT (d:=some 34) (k:=.i64) (n:=2) rfl rfl (by omega) ?_;rw [hc2])|refine aL (d:=some 25) (.int .i64 (c0:Nat)) rfl (congrArg (fun n=>some (Value.int .i64 n)) (vG (by omega))) ?_|refine aL (d:=some 30) (.int .i64 (c1:Nat)) rfl (congrArg (fun n=>some (Value.int .i64 n)) (vG (by omega))) ?_|refine aL (d:=some 35) (.int .i64 (c2:Nat)) rfl (congrArg (fun n=>some (Value.int .i64 n)) (vG (by omega))) ?_|refine tR (d:=some 36) (a:=256) (b:=(c2:Nat)) rfl rfl (by omega) ?_|refine aL (d:=some 37) (.int .i64 ((c1+256*c2:Nat):Int)) rfl (congrArg (fun n=>some (Value.int .i64 n)) (by rw [show ((c1:Nat):Int)+256*((c2:Nat):Int)=((c1+256*c2:Nat):Int) by omega];exact IntWalk.i64_in _ (by omega))) ?_|(first|refine go2 ?_|fail)|(first|refine zJ rfl (fun hh=>absurd hh (by omega)) (fun hh=>?_)|refine zJ rfl (fun hh=>?_) (fun hh=>absurd hh (by omega))|refine zJ rfl (fun hh=>?_) (fun hh=>?_)|refine bO rfl (fun hh=>absurd hh (by omega)) (fun hh=>?_)|refine bO rfl (fun hh=>?_) (fun hh=>absurd hh (by omega))|refine bO rfl (fun hh=>?_) (fun hh=>?_))|(first|refine zL rfl (fun hh=>absurd hh (by omega)) (fun _=>?_)|refine zN rfl (fun hh=>absurd hh (by omega)) (fun _=>?_)|refine zz rfl ?_))
    exact aA rfl ⟨rfl,by exact fx⟩
   ·have e:=bad (aV3 (fun q=>h0 q.2.2))
    rw [e]
    rw [b0] at h0
    generalize hc0:z[0].toNat=c0 at*
    refine gY rfl ?_
    unfold fI
    refine oy ?_
    repeat' (first|refine bL (d:=some 5) rfl (SlE.ext (w:=w) (by exact fx) hv) ?_|refine aT (d:=some 9) (E:=bB) rfl rfl (n:=0) (l:= [z]) (SlE.ext (w:=w) (by exact fx) hv) rfl (by simp) (fun ad9 (r9:Row _ ad9 [Value.string z])=>?_)|refine aT (d:=some 16) (E:=bB) rfl rfl (n:=0) (l:= [z]) (SlE.ext (w:=w) (by exact fx) hv) rfl (by simp) (fun ad16 (r16:Row _ ad16 [Value.string z])=>?_)|(refine iT (d:=some 18) (k:=.i64) (n:=0) rfl rfl (by omega) ?_;rw [hc0])|(first|refine go2 ?_|fail)|(first|refine zJ rfl (fun hh=>absurd hh (by omega)) (fun hh=>?_)|refine zJ rfl (fun hh=>?_) (fun hh=>absurd hh (by omega))|refine zJ rfl (fun hh=>?_) (fun hh=>?_)|refine bO rfl (fun hh=>absurd hh (by omega)) (fun hh=>?_)|refine bO rfl (fun hh=>?_) (fun hh=>absurd hh (by omega))|refine bO rfl (fun hh=>?_) (fun hh=>?_))|(first|refine zL rfl (fun _=>?_) (fun hh=>absurd (by omega) hh)|refine zN rfl (fun _=>?_) (fun hh=>absurd hh (by omega))|refine zy rfl ?_))
    exact aA rfl ⟨rfl,by exact fx⟩
  ·have e:=bad (aV3 (l:= [z]) (fun q=>h3 q.2.1))
   rw [e]
   refine gY rfl ?_
   unfold fI
   refine oy ?_
   repeat' (first|refine bL (d:=some 5) rfl (SlE.ext (w:=w) (by exact fx) hv) ?_|refine aT (d:=some 9) (E:=bB) rfl rfl (n:=0) (l:= [z]) (SlE.ext (w:=w) (by exact fx) hv) rfl (by simp) (fun ad9 (r9:Row _ ad9 [Value.string z])=>?_)|(first|refine go2 ?_|fail)|(first|refine zJ rfl (fun hh=>absurd hh (by omega)) (fun hh=>?_)|refine zJ rfl (fun hh=>?_) (fun hh=>absurd hh (by omega))|refine zJ rfl (fun hh=>?_) (fun hh=>?_)|refine bO rfl (fun hh=>absurd hh (by omega)) (fun hh=>?_)|refine bO rfl (fun hh=>?_) (fun hh=>absurd hh (by omega))|refine bO rfl (fun hh=>?_) (fun hh=>?_))|(first|refine zL rfl (fun _=>?_) (fun hh=>absurd (by omega) hh)|refine zN rfl (fun _=>?_) (fun hh=>absurd hh (by omega))|refine zy rfl ?_))
   all_goals exact aA rfl ⟨rfl,by exact fx⟩
 ·have e:=bad (aV3 (fun q=>h1 q.1))
  rw [e]
  refine gY rfl ?_
  unfold fI
  refine oy ?_
  repeat' (first|refine bL (d:=some 5) rfl (SlE.ext (w:=w) (by exact fx) hv) ?_|(first|refine go2 ?_|fail)|(first|refine zJ rfl (fun hh=>absurd hh (by omega)) (fun hh=>?_)|refine zJ rfl (fun hh=>?_) (fun hh=>absurd hh (by omega))|refine zJ rfl (fun hh=>?_) (fun hh=>?_)|refine bO rfl (fun hh=>absurd hh (by omega)) (fun hh=>?_)|refine bO rfl (fun hh=>?_) (fun hh=>absurd hh (by omega))|refine bO rfl (fun hh=>?_) (fun hh=>?_))|(first|refine zL rfl (fun _=>?_) (fun hh=>absurd (by omega) hh)|refine zN rfl (fun _=>?_) (fun hh=>absurd hh (by omega))|refine zy rfl ?_))
  all_goals exact aA rfl ⟨rfl,by exact fx⟩
end
end Go.Proofs.YteceapipdhnhdaaGreatDoor
