/- Contracts: dust; one amount less another one. Contracts: a t -/
import Derived.Test.YteceapipdhnhdaaGreatDoorNa12
import Derived.Test.YteceapipdhnhdaaGreatDoorNa30
import Derived.Test.YteceapipdhnhdaaGreatDoorNa31
import Derived.Test.YteceapipdhnhdaaGreatDoorNa32
set_option linter.unusedVariables false
set_option linter.unusedSimpArgs false
namespace Go.Proofs.YteceapipdhnhdaaGreatDoor
section
open Go Go.K
attribute [local irreducible] aH aM aY KOp.wp K.Spec u32 leS vnS str aP
def aC2 (y:TOut):Bool:=decide ((y.s.size:Int)≤40)
theorem aO6 (y:TOut) (hs:y.s.size≤1000000) (w:World):K.Spec Tryz.prog F.dust_Size [.agg (gI y).toArray] w fun r w'=>r=.tuple #[.int .i64 (if aC2 y then (aFc y:Nat) else 0),.int .i64 (if aC2 y then 0 else 20)]∧Ext w w':=by
 have h9:=eG y.s.size
 refine aWd rfl ?_
 unfold aMq
 refine oy ?_
 repeat' (first|refine zD rfl rfl (fun bp wp xp ap (rp:Row wp ⟨bp,0,none⟩ (gI y)) hp0=>?_)|refine zL (p:=((y.s.size:Nat):Int)>40) rfl (fun h=>?_) (fun h=>?_)|refine aL (d:=some 11) (.int .u64 (y.s.size:Nat)) rfl (congrArg (fun n=>some (Value.int .u64 n)) (eZ (by omega) (by omega))) ?_|(refine zC (d:=some 12) rfl (aTy y.s.size (by omega) _) ?_;rintro _ w3 ⟨rfl,x3⟩)|(first|refine go2 ?_|fail))
 ·have e:aC2 y=false:=dFa (by omega)
  rw [e]
  exact aA rfl ⟨rfl,by exact fx⟩
 ·have e:aC2 y=true:=dTr (by omega)
  rw [e]
  exact aA rfl ⟨congrArg (fun z=>Value.tuple #[.int .i64 z,.int .i64 0]) (by simp only [aFc,if_true];omega),by exact fx⟩
theorem aMm (y:TOut) (hs:y.s.size≤1000000) (w:World):K.Spec Tryz.prog F.dust_Least [.agg (gI y).toArray] w fun r w'=>r=.tuple #[.int .i64 (if aC2 y then ((3000*(aFc y+67)+999) / 1000:Nat) else 0),.int .i64 (if aC2 y then 0 else 20)]∧Ext w w':=by
 have h9:=eG y.s.size
 refine aUi rfl ?_
 unfold aGt
 refine oy ?_
 cases he:aC2 y with
 |false=>
  repeat' (first|refine zD rfl rfl (fun bp wp xp ap (rp:Row wp ⟨bp,0,none⟩ (gI y)) hp0=>?_)|(refine zC (d:=some 8) rfl (aO6 y hs _) ?_;rintro _ w3 ⟨rfl,x3⟩;rw [he])|(first|refine go2 ?_|fail))
  exact aA rfl ⟨rfl,by exact fx⟩
 |true=>
  have h40:y.s.size≤40:=by have:=of_decide_eq_true he;omega
  have hz:aFc y≤1000:=by unfold aFc;omega
  repeat' (first|refine zD rfl rfl (fun bp wp xp ap (rp:Row wp ⟨bp,0,none⟩ (gI y)) hp0=>?_)|(refine zC (d:=some 8) rfl (aO6 y hs _) ?_;rintro _ w3 ⟨rfl,x3⟩;rw [he])|(refine zC (d:=some 16) (congrArg (fun z=> [Value.int .i64 3000,Value.int .i64 z]) (show ((aFc y:Nat):Int)+67=((aFc y+67:Nat):Int) by omega)) (aKn 3000 (aFc y+67) (by decide) (by omega) _) ?_;rintro _ w4 ⟨rfl,x4⟩)|(first|refine go2 ?_|fail))
  exact aA rfl ⟨rfl,by exact fx⟩
theorem bM0:bW Tryz.prog F.dust_Dust=true:=by kernel_rfl
theorem bFq (y:TOut) (hs:y.s.size≤1000000) (w:World):K.Spec Tryz.prog F.dust_Dust [.agg (gI y).toArray] w fun r w'=>r=.bool (aOn y)∧Ext w w':=by
 refine aWw rfl ?_
 unfold aLy
 refine oy ?_
 cases he:aC2 y with
 |false=>
  have e:aOn y=false:=by unfold aOn;rw [show decide ((y.s.size:Int)≤40)=false from he];rfl
  rw [e]
  repeat' (first|refine zD rfl rfl (fun bp wp xp ap (rp:Row wp ⟨bp,0,none⟩ (gI y)) hp0=>?_)|(refine zC (d:=some 7) rfl (aMm y hs _) ?_;rintro _ w3 ⟨rfl,x3⟩;rw [he])|(first|refine go2 ?_|fail))
  exact aA rfl ⟨rfl,by exact fx⟩
 |true=>
  have e:aOn y=decide (y.v<(((3000*(aFc y+67)+999) / 1000:Nat):Int)):=by unfold aOn;rw [show decide ((y.s.size:Int)≤40)=true from he];rfl
  rw [e]
  repeat' (first|refine zD rfl rfl (fun bp wp xp ap (rp:Row wp ⟨bp,0,none⟩ (gI y)) hp0=>?_)|(refine zC (d:=some 7) rfl (aMm y hs _) ?_;rintro _ w3 ⟨rfl,x3⟩;rw [he])|(first|refine go2 ?_|fail))
  exact aA rfl ⟨rfl,by exact fx⟩
theorem aN6 {M:List Nat} {cs:List Value} {t:Tx} (w:World) (ht:txR.rel M w cs t) (hs:t.Sm) (hq:∀y∈t.outs,y.s.size≤1000000):K.Spec Tryz.prog F.dust_First [.agg cs.toArray] w fun r w'=>r=.tuple #[.int .i64 (max (pD t) 0),.bool (decide (pD t≥0))]∧Ext w w':=by
 obtain ⟨iv,ov,rfl,hi,ho,hv,hl⟩:=ht
 have g:=hs.outs
 have tl:∀w1,Ext w w1→qQ F.dust_Dust [] gF (fun cs=>.agg cs.toArray) M w1 t.outs aOn:=fun w1 x1 y hy w' cs x2 hc=>by
  obtain ⟨rfl,_⟩:=hc
  exact bFq y (hq y hy) w'
 refine aU3 rfl ?_
 unfold aHj
 refine oy ?_
 repeat' (first|refine zD rfl rfl (fun bp wp xp ap (rp:Row wp ⟨bp,0,none⟩ (aK t iv ov)) hp0=>?_)|(refine zC (d:=some 7) rfl (aMn (l:=t.outs) (M:=M) (g:=F.dust_Dust) (capl:= []) _ bM0 (SlR.ext ho (by exact fx)) (by omega) (tl _ (by exact fx))) ?_;rintro _ w2 ⟨rfl,x2⟩)|refine aJ5 (d:=some 9) (a:=pD t) (b:=0) rfl rfl ?_|(first|refine go2 ?_|fail))
 exact aA rfl ⟨rfl,by exact fx⟩
theorem bF0 (a b:Int) (ha:bT a=true) (hb:bT b=true) (h:b≤a) (w:World):K.Spec Tryz.prog F.amount_Sub [.int .i64 a,.int .i64 b] w fun r w'=>r=.tuple #[.int .i64 (a - b),.int .i64 0]∧Ext w w':=by
 have h1:=(bR a).1 ha
 have h2:=(bR b).1 hb
 refine aUk rfl ?_
 unfold aHr
 refine oy ?_
 repeat' (first|refine zF (d:=some 7) (v:=.bool true) ((qG _).trans (by rw [ha])) ?_|refine zF (d:=some 11) (v:=.bool true) ((qG _).trans (by rw [hb])) ?_|refine zL (p:=b>a) rfl (fun h=>absurd h (by omega)) (fun _=>?_)|(first|refine go2 ?_|fail))
 exact aA rfl ⟨rfl,Ext.refl _⟩
end
section
open Go Go.K
attribute [local irreducible] aH aM aY KOp.wp K.Spec u32 leS vnS str aP cA bS cO gU lL cX hZ iD aG aN bK idT aQ
theorem aWt {t:Tx} (hc:aG t=0) {i:Nat} (hi:i<t.ins.length):∀z∈t.ins[i].wit,z.size≤1000000:=fun z hz=>by
 have:=(cI (nD hc) hc).item _ (gMe hi) z hz
 omega
section
variable {d:Option Tmp} {r:KR} {K:Env→World→Prop} {ρ:Env} {w w0:World} {v:Value} {f:Pt→Option Cn}
theorem bN7 {x:Operand} {args:List Operand} (hV:gV w0 v f) (xx:Ext w0 w) (p:Pt) (hp:fN p.i) (hx:ev ρ x=v) (ha:args.map (ev ρ)= [.agg p.cs.toArray])
  (k:∀c w',(f p).getD cn0=c→Ext w w'→aH Tryz.prog r K (put ρ d (.tuple #[.agg c.cs.toArray,.bool (f p).isSome])) w'):aH Tryz.prog (.cons ⟨d,.invoke x "Get" args,none⟩ r) K ρ w:=by
 obtain ⟨⟨t,u,rfl,hv⟩,_⟩:=hV
 obtain ⟨fn,rv,_,hm,hb,hS⟩:=hv p hp w xx
 exact aSn hx hm hb (by rw [ha]) hS fun _ w' ⟨c,e,hc,x⟩=>by subst e;exact k c w' hc x
theorem gV.mo_get {t:TypeId} {u:Value} (hV:gV w0 (.iface t u) f) {p:Pt} (hp:fN p.i):mo t u "Get" =true:=by
 obtain ⟨⟨t',u',e,hv⟩,_⟩:=hV
 cases e
 obtain ⟨_,_,h,_⟩:=hv p hp w0 (Ext.refl w0)
 exact bRm h
theorem bMu {M:List Nat} {iv:Value} {l:List TIn} (h:SlR inR M w iv l) {i:Nat} (hi:i<l.length):fN l[i].p.i:=by
 obtain ⟨css,hsl,hall,_⟩:=h
 obtain ⟨_,_,_,hq,_⟩:=All2.get hall i (by rw [hall.length];exact hi) hi
 exact hq
end
set_option maxHeartbeats 1000000 in
theorem aPu {M:List Nat} {cs:List Value} {t:Tx} {v:Value} {f:Pt→Option Cn} (i:Nat) (hi:i<t.ins.length) (hc:aG t=0) (h:Int) (w:World) (hV:gV w v f) (ht:txR.rel M w cs t):K.Spec Tryz.prog F.check_spent [v,.agg cs.toArray,.int .i64 (i:Nat),.int .i64 h] w fun r w'=>
  ∃c:Cn,r=.tuple #[.agg c.cs.toArray,.int .i64 (inE f t h t.ins[i])]∧c=(f t.ins[i].p).getD cn0∧Ext w w':=by
 have hs:=nD hc
 have hn:=hs.ins
 have hwz:=aWt hc hi
 have ht0:=ht
 obtain ⟨iv,ov,rfl,h1,h2,h3,h4⟩:=ht
 have hp5:=bMu h1 hi
 have hz:=hV.2
 obtain ⟨vt,vu,rfl⟩:∃vt vu,v=.iface vt vu:=by obtain ⟨⟨a,b,e,_⟩,_⟩:=hV;exact ⟨a,b,e⟩
 have hmo:=hV.mo_get hp5
 refine aQy rfl ?_
 unfold aEy
 refine oy ?_
 repeat' (first|refine zD rfl rfl (fun bp wp xp ap (rp:Row wp ⟨bp,0,none⟩ (aK t iv ov)) hp0=>?_)|(refine zH (d:=some 8) (fun b8 w8 x8 a8 hb8=>?_);have h08:w.heap.size≤b8:=nTr xp.size hb8)|(refine aR (d:=some 18) (E:=inR) (M:=M) rfl rfl (n:=i) (l:=t.ins) (SlR.ext h1 (by exact fx)) rfl hi (fun ad cs r4 he=>?_);obtain ⟨wv,rfl, -, -, -⟩:=he)|refine bNi (d:=some 22) rfl hmo ?_|refine fG ?_ ?_|refine bN7 (d:=some 24) hV (by exact fx) t.ins[i].p hp5 rfl rfl (fun c w6 hcc x6=>?_)|(refine zH (d:=some 10) (fun b10 w10 x10 a10 hb10=>?_);have h10:w8.heap.size≤b10:=nTr (Ext.size (w:=w8) (by exact fx)) hb10)|(first|refine go2 ?_|fail))
 all_goals
  have l8:=a8.lt
  have s08:w.heap.size≤w8.heap.size:=Ext.size (w:=w) (by exact fx)
  refine aW (w0:=w) (vs:=c.cs) (by exact fx) (nTr s08 h10) (by exact atx) rfl rfl rfl rfl rfl (fun w7 x7 c7 a7 r7=>?_)
  have a7':At w7 b8 _:=At.chg c7 (At.ext (w:=w8) (by exact fx) a8) (by simp;omega)
  have rp7:Row w7 ⟨bp,0,none⟩ (aK t iv ov):=Row.chg c7 (Row.ext (w:=wp) (by exact fx) rp) (by have:=ap.lt;have:=x8.size;simp;omega)
  have ht7:=R.ext ht0 x7
  clear c7 a8 rp x8 xp x6 x10
  cases hf:f t.ins[i].p with
  |none=>
   have e:inE f t h t.ins[i]=8:=by unfold inE;rw [hf]
   rw [e]
   rw [hf] at hcc
   repeat' (first|refine aW (w0:=w) (vs:=c.cs) (by exact fx) h08 (by exact atx) rfl rfl rfl rfl rfl (fun w9 x9 c9 a9 r9=>?_)|(first|refine go2 ?_|fail))
   exact aA (iY (bA r9 rfl rfl) bI) ⟨c,rfl,hcc.symm,x9⟩
  |some d=>
   have ec:d=c:=by rw [hf] at hcc;exact hcc
   subst ec
   have e:inE f t h t.ins[i]=if hZ d.s t t.ins[i]≠0 then hZ d.s t t.ins[i] else if iD t t.ins[i] d.h h then 0 else 10:=by unfold inE;rw [hf]
   rw [e]
   repeat' (first|refine aGs (x:=.tmp 28) rfl ?_|(refine zC (d:=some 35) rfl (bFu (M:=M) (t:=t) (cs:=aK t iv ov) d.s (hz _ _ hf) i hi hn hwz _ (R.ext ht7 (by exact fx))) ?_;rintro _ w2 ⟨rfl,x2⟩)|refine zN (p:=hZ d.s t t.ins[i]=0) rfl (fun ho=>?_) (fun ho=>?_)|(refine zC (d:=some 45) rfl (bF5 (M:=M) (t:=t) (cs:=aK t iv ov) i hi hn d.h h _ (R.ext ht7 (by exact fx))) ?_;rintro _ w3 ⟨rfl,x3⟩)|refine rX (x:=.tmp 46) rfl (fun hr=>?_) (fun hr=>?_)|refine aW (w0:=w) (vs:=d.cs) (by exact fx) h08 (by exact atx) rfl rfl rfl rfl rfl (fun w9 x9 c9 a9 r9=>?_)|(first|refine go2 ?_|fail))
   ·rw [if_pos (by assumption)]
    exact aA (iY (bA r9 rfl rfl) bI) ⟨d,rfl,rfl,x9⟩
   ·rw [if_neg (by simpa using ‹hZ d.s t t.ins[i]=0›),if_neg (by simpa using ‹(!iD t t.ins[i] d.h h)=true›)]
    exact aA (iY (bA r9 rfl rfl) bI) ⟨d,rfl,rfl,x9⟩
   ·rw [if_neg (by simpa using ‹hZ d.s t t.ins[i]=0›),if_pos (by simpa using ‹(!iD t t.ins[i] d.h h)=false›)]
    exact aA (iY (bA r9 rfl rfl) bI) ⟨d,rfl,rfl,x9⟩
theorem aCg {M:List Nat} {cs:List Value} {t:Tx} {vt:TypeId} {vu:Value} (w:World) (ht:txR.rel M w cs t) (hs:t.Sm):K.Spec Tryz.prog F.check_formed [.iface vt vu,.agg cs.toArray] w fun r w'=>r=.int .i64 (if aG t≠0 then aG t else if aN t then 4 else 0)∧Ext w w':=by
 have ht0:=ht
 obtain ⟨iv,ov,rfl,h1,h2,h3,h4⟩:=ht
 refine aNu rfl ?_
 unfold aC3
 refine oy ?_
 repeat' (first|refine zD rfl rfl (fun bp wp xp ap (rp:Row wp ⟨bp,0,none⟩ (aK t iv ov)) hp0=>?_)|(refine zC (d:=some 9) rfl (rB (M:=M) (t:=t) (cs:=aK t iv ov) _ (R.ext ht0 (by exact fx)) hs) ?_;rintro _ w2 ⟨rfl,x2⟩)|refine zN (p:=aG t=0) rfl (fun h=>?_) (fun h=>?_)|(refine zC (d:=some 14) rfl (kA (M:=M) (t:=t) (cs:=aK t iv ov) _ (R.ext ht0 (by exact fx)) hs) ?_;rintro _ w3 ⟨rfl,x3⟩)|refine aGs (x:=.tmp 7) rfl ?_|refine zM (x:=.tmp 14) rfl (fun h=>?_) (fun h=>?_)|(first|refine go2 ?_|fail))
 ·exact aA rfl ⟨by rw [if_pos (show aG t≠0 from h)];rfl,by exact fx⟩
 ·exact aA rfl ⟨by rw [if_neg (show ¬aG t≠0 from fun q=>q ‹aG t=0›),if_pos ‹aN t=true›];rfl,by exact fx⟩
 ·exact aA rfl ⟨by rw [if_neg (show ¬aG t≠0 from fun q=>q ‹aG t=0›),if_neg (show ¬aN t=true by rw [‹aN t=false›];simp)];rfl,by exact fx⟩
theorem bIe (w:World):K.Spec Tryz.prog F.check_told [.int .i64 0] w fun r w'=>r=.nilIface∧Ext w w':=by
 refine aV4 rfl ?_
 unfold aIt
 refine oy ?_
 repeat' (first|(first|refine go2 ?_|fail))
 exact aA rfl ⟨rfl,Ext.refl _⟩
end
section
open Go Go.K
attribute [local irreducible] aH aM aY KOp.wp K.Spec u32 leS vnS str aP cA bS cO gU lL cX hZ iD aG aN bK idT aQ inE
section
variable {f:Pt→Option Cn} {t:Tx} {h:Int}
theorem bEe (hc:aG t≠0):gJ f t h=(0,aG t, -1):=by unfold gJ;rw [if_pos hc]
theorem aJy (hc:aG t=0) (hg:aN t=true):gJ f t h=(0,4, -1):=by unfold gJ;rw [if_neg (by simpa using hc),if_pos hg]
theorem bB2 (hc:aG t=0) (hg:aN t=false) {i:Nat} (hi:i<t.ins.length) (hk:∀j,j<i→∀hj:j<t.ins.length,inE f t h t.ins[j]=0) (he:inE f t h t.ins[i]≠0):gJ f t h=(0,inE f t h t.ins[i],((i:Nat):Int)):=by
 unfold gJ
 have e:(t.ins.findIdx? fun x=>decide (inE f t h x≠0))=some i:=List.findIdx?_eq_some_iff_getElem.2 ⟨hi,dTr he,fun j hj=>by rw [hk j hj (by omega)];simp⟩
 rw [if_neg (by simpa using hc),if_neg (by rw [hg];simp),e]
 simp only
 rw [List.getD_eq_getElem?_getD,List.getElem?_eq_getElem hi];rfl
theorem aV5 (hc:aG t=0) (hg:aN t=false) (hk:∀j,∀hj:j<t.ins.length,inE f t h t.ins[j]=0):
  gJ f t h=if nO (t.ins.map (inV f))≠0 then (0,nO (t.ins.map (inV f)), -1) else if gX (values t)>gX (t.ins.map (inV f)) then (0,12, -1) else (gX (t.ins.map (inV f)) - gX (values t),0, -1):=by
 unfold gJ
 have e:(t.ins.findIdx? fun x=>decide (inE f t h x≠0))=none:=List.findIdx?_eq_none_iff.2 fun x hx=>by
  obtain ⟨j,hj,rfl⟩:=List.getElem_of_mem hx
  rw [hk j hj];simp
 rw [if_neg (by simpa using hc),if_neg (by rw [hg];simp),e]
end
theorem sM {l:List Int} (h:nO l=0):bT (gX l)=true:=by
 unfold nO at h
 unfold gX
 cases hs:mN 0 l with
 |none=>rw [hs] at h;cases h
 |some s=>exact aAj l 0 s (by decide) hs
theorem aKd {t:Tx} (h:aG t=0):nO (values t)=0:=by
 unfold aG at h
 repeat' split at h
 all_goals first|exact h|cases h
set_option maxHeartbeats 2000000 in
theorem aWy {M:List Nat} {cs:List Value} {t:Tx} {v:Value} {f:Pt→Option Cn} (bl:Int) (w:World) (hV:gV w v f) (ht:txR.rel M w cs t) (hs:t.Sm):K.Spec Tryz.prog F.check_Fee [v,.agg cs.toArray,.int .i64 bl] w fun r w'=>
  ∃e,r=.tuple #[.int .i64 (gJ f t bl).1,e]∧dD w' 1 e (gJ f t bl).2.1 (gJ f t bl).2.2∧Ext w w':=by
 have hn:=hs.ins
 have ht0:=ht
 obtain ⟨iv,ov,rfl,h1,h2,h3,h4⟩:=ht
 have hV0:=hV
 obtain ⟨⟨vt,vu,rfl,_⟩,_⟩:=hV
 refine aWk rfl ?_
 unfold aK5
 refine oy ?_
 by_cases hc:aG t=0
 ·cases hg:aN t with
  |true=>
   rw [aJy hc hg]
   repeat' (first|refine zD rfl rfl (fun bp wp xp ap (rp:Row wp ⟨bp,0,none⟩ (aK t iv ov)) hp0=>?_)|(refine zC (d:=some 20) rfl (aCg (M:=M) (t:=t) (cs:=aK t iv ov) _ (R.ext ht0 (by exact fx)) hs) ?_;rintro _ w2 ⟨rfl,x2⟩;rw [if_neg (by simpa using hc),if_pos hg])|(first|refine go2 ?_|fail))
   exact aA rfl ⟨_,rfl,dD.num _ _ (by decide),by exact fx⟩
  |false=>
   repeat' (first|refine zD rfl rfl (fun bp wp xp ap (rp:Row wp ⟨bp,0,none⟩ (aK t iv ov)) hp0=>?_)|(refine zC (d:=some 20) rfl (aCg (M:=M) (t:=t) (cs:=aK t iv ov) _ (R.ext ht0 (by exact fx)) hs) ?_;rintro _ w2 ⟨rfl,x2⟩;rw [if_neg (by simpa using hc),if_neg (by rw [hg];simp)])|refine zG (d:=some 27) (E:=inR) (M:=M) (l:=t.ins) rfl (SlR.ext h1 (by exact fx)) ?_|(refine aJ (fun (p:Nat × Value) w'=>Ext w2 w'∧p.1≤t.ins.length∧Own aCl T.int w2.heap.size w' p.2 ((t.ins.take p.1).map (inV f))∧∀j,j<p.1→∀hj:j<t.ins.length,inE f t bl t.ins[j]=0) (fun p=> [(0,.iface vt vu),(2,.int .i64 bl),(4,.pointer (some ⟨bp,0,none⟩)),(9,p.2),(27,.int .i64 (t.ins.length:Nat)),(28,.int .i64 (p.1:Nat))]) (fun p=>t.ins.length - p.1) (0,.slice none 0 0) ⟨rfl,rfl,rfl,rfl,rfl,rfl,trivial⟩ ⟨Ext.refl _,by simp,Own.nil _ _ _,fun j hj=>absurd hj (by simp)⟩ ?_;rintro ⟨i,v9⟩ ρ w3 ⟨x3,hi,ho,hk⟩;simp only at hi ho hk;dsimp only)|refine zL (p:=((i:Nat):Int)<((t.ins.length:Nat):Int)) rfl (fun h=>?_) (fun h=>?_)|(first|refine go2 ?_|fail))
   ·have hil:i<t.ins.length:=by omega
    have s2:wp.heap.size≤w2.heap.size:=x2.size
    have rp3:Row w3 ⟨bp,0,none⟩ (aK t iv ov):=rp.ext (by exact fx)
    have ht3:=R.ext ht0 (show Ext w w3 by exact fx)
    have hV3:=hV0.ext (show Ext w w3 by exact fx)
    by_cases he:inE f t bl t.ins[i]=0
    ·repeat' (first|(refine zC (d:=some 36) rfl (aPu (M:=M) (t:=t) (cs:=aK t iv ov) i hil hc bl _ (hV3.ext (by exact fx)) (R.ext ht3 (by exact fx))) ?_;rintro _ w4 ⟨c,rfl,hcc,x4⟩;rw [he])|refine zE (d':=11) (fun _=>rfl) rfl rfl rfl (fun b7 w7 x7 a7 (r7:Row w7 ⟨b7,0,none⟩ c.cs) hb7=>?_)|refine zI (d:=some 51) (cs:= [.int .i64 c.v]) rfl (fun b8 w8 x8 a8 hb8=>?_)|refine bZ (d:=some 52) (E:=aCl) (v:=v9) (l2:= [c.v]) rfl (ho.ext (by exact fx)) (Ext.size (w:=w2) (by exact fx)) rfl rfl (dR a8 rfl) rfl rfl (by simp;omega) (fun v10 w10 o10 c10=>?_)|(first|refine go2 ?_|fail))
     exact ⟨(i+1,v10),⟨rfl,rfl,rfl,rfl,rfl,rfl,trivial⟩,⟨(Ext.chg (w:=w2) (by exact fx) c10).mono (fun b hb=>.inr (ho.base b hb)),by simp only;omega,by simp only;rw [List.take_succ_eq_append_getElem hil,List.map_append];subst hcc;exact o10,fun j hj hjl=>by
      simp only at hj
      by_cases e:j=i
      ·subst e;exact he
      ·exact hk j (by omega) hjl⟩,by simp only;omega⟩
    ·rw [bB2 hc hg hil hk he]
     repeat' (first|(refine zC (d:=some 36) rfl (aPu (M:=M) (t:=t) (cs:=aK t iv ov) i hil hc bl _ (hV3.ext (by exact fx)) (R.ext ht3 (by exact fx))) ?_;rintro _ w4 ⟨c,rfl,hcc,x4⟩)|refine zE (d':=11) (fun _=>rfl) rfl rfl rfl (fun b7 w7 x7 a7 (r7:Row w7 ⟨b7,0,none⟩ c.cs) hb7=>?_)|refine zN (p:=inE f t bl t.ins[i]=0) rfl (fun _=>?_) (fun h=>absurd h he)|refine aZ (d:=some 44) (cs:= [.int .i64 (i:Nat),qO (inE f t bl t.ins[i])]) rfl ?_|refine zD (d:=some 45) (cs:= [.int .i64 (i:Nat),qO (inE f t bl t.ins[i])]) rfl rfl (fun b8 w8 x8 a8 r8 hb8=>?_)|(first|refine go2 ?_|fail))
     exact aA rfl ⟨_,rfl,.inr ⟨he,(show (0:Int)≤((i:Nat):Int) by omega),b8,_, -1,rfl,a8,dD.num _ _ he⟩,by exact fx⟩
   ·have ei:i=t.ins.length:=by omega
    subst ei
    rw [List.take_length] at ho
    have rp3:Row w3 ⟨bp,0,none⟩ (aK t iv ov):=rp.ext (by exact fx)
    have ht3:=R.ext ht0 (show Ext w w3 by exact fx)
    rw [aV5 hc hg fun j hj=>hk j hj hj]
    by_cases hsum:nO (t.ins.map (inV f))=0
    ·have hgood:=sM hsum
     have hgv:=sM (aKd hc)
     rw [if_neg (by simpa using hsum)]
     by_cases hv:gX (values t)>gX (t.ins.map (inV f))
     ·rw [if_pos hv]
      repeat' (first|(refine zC (d:=some 56) rfl (aGz (l:=t.ins.map (inV f)) _ (SlE.ext (w:=w3) (by exact fx) ho.sl) (by simp;omega)) ?_;rintro _ _ ⟨rfl,rfl⟩;rw [hsum])|(refine zC (d:=some 65) rfl (aCs (M:=M) (t:=t) (cs:=aK t iv ov) _ (R.ext ht3 (by exact fx)) hs) ?_;rintro _ w5 ⟨rfl,x5⟩)|refine zL (p:=gX (values t)>gX (t.ins.map (inV f))) rfl (fun _=>?_) (fun h=>absurd hv h)|(first|refine go2 ?_|fail))
      exact aA rfl ⟨_,rfl,dD.num _ _ (by decide),by exact fx⟩
     ·rw [if_neg hv]
      repeat' (first|(refine zC (d:=some 56) rfl (aGz (l:=t.ins.map (inV f)) _ (SlE.ext (w:=w3) (by exact fx) ho.sl) (by simp;omega)) ?_;rintro _ _ ⟨rfl,rfl⟩;rw [hsum])|(refine zC (d:=some 65) rfl (aCs (M:=M) (t:=t) (cs:=aK t iv ov) _ (R.ext ht3 (by exact fx)) hs) ?_;rintro _ w5 ⟨rfl,x5⟩)|refine zL (p:=gX (values t)>gX (t.ins.map (inV f))) rfl (fun h=>absurd h hv) (fun _=>?_)|(refine zC (d:=some 75) rfl (bF0 _ _ hgood hgv (by omega) _) ?_;rintro _ w6 ⟨rfl,x6⟩)|(refine zC (d:=some 80) rfl (bIe _) ?_;rintro _ w7 ⟨rfl,x7⟩)|(first|refine go2 ?_|fail))
      exact aA rfl ⟨_,rfl,dD.none_ _ _,by exact fx⟩
    ·rw [if_pos hsum]
     repeat' (first|(refine zC (d:=some 56) rfl (aGz (l:=t.ins.map (inV f)) _ (SlE.ext (w:=w3) (by exact fx) ho.sl) (by simp;omega)) ?_;rintro _ _ ⟨rfl,rfl⟩)|refine zN (p:=nO (t.ins.map (inV f))=0) rfl (fun _=>?_) (fun h=>absurd h hsum)|(first|refine go2 ?_|fail))
     exact aA rfl ⟨_,rfl,dD.num _ _ hsum,by exact fx⟩
 ·rw [bEe hc]
  repeat' (first|refine zD rfl rfl (fun bp wp xp ap (rp:Row wp ⟨bp,0,none⟩ (aK t iv ov)) hp0=>?_)|(refine zC (d:=some 20) rfl (aCg (M:=M) (t:=t) (cs:=aK t iv ov) _ (R.ext ht0 (by exact fx)) hs) ?_;rintro _ w2 ⟨rfl,x2⟩;rw [if_pos hc])|refine zN (p:=aG t=0) rfl (fun _=>?_) (fun h=>absurd h hc)|(first|refine go2 ?_|fail))
  exact aA rfl ⟨_,rfl,dD.num _ _ hc,by exact fx⟩
end
end Go.Proofs.YteceapipdhnhdaaGreatDoor
section
namespace Go.K
open Go Go.Proofs.YteceapipdhnhdaaGreatDoor
theorem aU8 (c d:Cn):(decide (c.v=d.v)&&(decide (c.s=d.s)&&(decide (c.h=d.h)&&true)))=decide (c=d):=by
 cases c;cases d
 simp [Cn.mk.injEq,Bool.decide_and]
theorem bAy {a b:List En} {i:Nat} (h:i<a.length):eF (a.take (i+1)) b=eF (a.take i) b++if aS b a[i].1=some a[i].2 then [] else [a[i]]:=by
 unfold eF
 rw [List.take_succ_eq_append_getElem h,List.filter_append]
 congr 1
 by_cases hx:aS b a[i].1=some a[i].2<;>simp [hx]
theorem yP (a b:List En):(eF a b).length≤a.length:=List.length_filter_le _ _
theorem aCj {l:List En} (h:Srt l) (p:Pt):dH l p=(aS l p).getD cn0:=(aD3 (List.Perm.refl l) h p).symm
end Go.K
namespace Go.Proofs.YteceapipdhnhdaaGreatDoor
open Go Go.K
attribute [local irreducible] aH aM aY KOp.wp K.Spec dH cY cR aV cH eF lC yA
set_option maxHeartbeats 1000000 in
theorem aQp {a ma b mb:Nat} {la lb:List En} (w:World) (ha:gE T.coins_Set w a ma la) (hb:gE T.coins_Set w b mb lb) (hn:la.length≤90000):K.Spec Tryz.prog F.block_missing [.pointer (some ⟨a,0,none⟩),.pointer (some ⟨b,0,none⟩)] w fun r w'=>Own cQ T.coins_Entry w.heap.size w' r (eF la lb)∧Ext w w':=by
 have hsb:=hb.1
 refine aMu rfl ?_
 unfold aA9
 refine oy ?_
 repeat' (first|(refine zC (d:=some 11) rfl (bGj _ ha (by omega)) ?_;rintro v11 w1 ⟨hv1,hb1,x1⟩)|refine bL (d:=some 12) rfl (SlE.ext (w:=w1) (by exact fx) hv1) ?_|(refine aJ (fun (p:Nat × Value) w'=>Ext w1 w'∧p.1≤la.length∧Own cQ T.coins_Entry w1.heap.size w' p.2 (eF (la.take p.1) lb)) (fun p=> [(0,.pointer (some ⟨a,0,none⟩)),(1,.pointer (some ⟨b,0,none⟩)),(5,p.2),(11,v11),(12,.int .i64 (la.length:Nat)),(13,.int .i64 (p.1:Nat))]) (fun p=>la.length - p.1) (0,.slice none 0 0) ⟨rfl,rfl,rfl,rfl,rfl,rfl,trivial⟩ ⟨Ext.refl _,by simp,by unfold eF;exact Own.nil _ _ _⟩ ?_;rintro ⟨i,v5⟩ ρ w2 ⟨x2,hi,ho⟩;simp only at hi ho;dsimp only)|refine zL (x:=.tmp 14) (p:=((i:Nat):Int)<((la.length:Nat):Int)) rfl (fun h6=>?_) (fun h6=>?_)|(first|refine go2 ?_|fail))
 ·have hil:i<la.length:=by omega
  have ht:=bAy (b:=lb) hil
  have hll:=yP (la.take i) lb
  have hll2:(la.take i).length≤i:=by rw [List.length_take];omega
  have x02':Unit→Ext w w2:=fun _=>x1.trans x2
  have hv2:=hv1.ext x2
  have hb2:=hb.ext (x02' ())
  have hs2:=x2.size
  have x12':Unit→Ext w1 w2:=fun _=>x2
  obtain ⟨x,hx⟩:∃x,x=la[i]:=⟨_,rfl⟩
  rw [←hx] at ht
  clear x1 x2
  repeat (first|(refine aT (d:=some 15) (E:=cQ) rfl rfl (n:=i) (l:=la) (SlE.ext (w:=w2) (by exact fx) hv2) rfl hil (fun ad3 r3=>?_);rw [←hx] at r3)|refine zE (d':=7) (fun _=>rfl) rfl rfl rfl (fun b7 w7 x7 a7 (r7:Row w7 ⟨b7,0,none⟩ (cQ.f x)) hb7=>?_)|(refine zC (d:=some 21) rfl (aSi x.1 _ (hb2.ext (by exact fx))) ?_;rintro _ w8 ⟨rfl,x8⟩)|(first|refine go2 ?_|fail))
  by_cases hsame:aS lb x.1=some x.2
  ·have e1:dH lb x.1=x.2:=by rw [aCj hsb,hsame];rfl
   rw [if_pos hsame,List.append_nil] at ht
   rw [e1,hsame,Option.isSome_some]
   repeat (first|refine zE (d':=8) (fun _=>rfl) rfl rfl rfl (fun b9 w9 x9 a9 (r9:Row w9 ⟨b9,0,none⟩ x.2.cs) hb9=>?_)|refine aL (d:=some 30) (.bool false) rfl (congrArg (fun b=>some (Value.bool (!b))) ((aU8 x.2 x.2).trans (dTr rfl))) ?_|(first|refine go2 ?_|fail))
   exact ⟨(i+1,v5),⟨rfl,rfl,rfl,rfl,rfl,rfl,trivial⟩,⟨(x12' ()).trans (by exact fx),by simp only;omega,by simp only;rw [ht];exact ho.ext (by exact fx)⟩,by simp only;omega⟩
  ·rw [if_neg hsame] at ht
   cases hg:aS lb x.1 with
   |none=>
    rw [Option.isSome_none]
    repeat (first|refine zE (d':=8) (fun _=>rfl) rfl rfl rfl (fun b9 w9 x9 a9 (r9:Row w9 ⟨b9,0,none⟩ (dH lb x.1).cs) hb9=>?_)|refine zI (d:=some 34) (cs:=cQ.f x) rfl (fun b10 w10 x10 a10 hb10=>?_)|refine bZ (d:=some 35) (E:=cQ) (v:=v5) (l2:= [x]) rfl (ho.ext (by exact fx)) (nTr hs2 (Ext.size (w:=w2) (by exact fx))) rfl rfl (dR a10 rfl) rfl rfl (by simp only [List.length_cons,List.length_nil];omega) (fun v12 w12 o12 c12=>?_)|(first|refine go2 ?_|fail))
    exact ⟨(i+1,v12),⟨rfl,rfl,rfl,rfl,rfl,rfl,trivial⟩,⟨(Ext.chg ((x12' ()).trans (show Ext w2 _ by exact fx)) c12).mono (fun y hy=>.inr (ho.base y hy)),by simp only;omega,by simp only;rw [ht];exact o12⟩,by simp only;omega⟩
   |some d=>
    have hd:d≠x.2:=fun e=>hsame (by rw [hg,e])
    have e1:dH lb x.1=d:=by rw [aCj hsb,hg];rfl
    rw [e1,Option.isSome_some]
    repeat (first|refine zE (d':=8) (fun _=>rfl) rfl rfl rfl (fun b9 w9 x9 a9 (r9:Row w9 ⟨b9,0,none⟩ d.cs) hb9=>?_)|refine aL (d:=some 30) (.bool true) rfl (congrArg (fun b=>some (Value.bool (!b))) ((aU8 d x.2).trans (dFa hd))) ?_|refine zI (d:=some 34) (cs:=cQ.f x) rfl (fun b10 w10 x10 a10 hb10=>?_)|refine bZ (d:=some 35) (E:=cQ) (v:=v5) (l2:= [x]) rfl (ho.ext (by exact fx)) (nTr hs2 (Ext.size (w:=w2) (by exact fx))) rfl rfl (dR a10 rfl) rfl rfl (by simp only [List.length_cons,List.length_nil];omega) (fun v12 w12 o12 c12=>?_)|(first|refine go2 ?_|fail))
    exact ⟨(i+1,v12),⟨rfl,rfl,rfl,rfl,rfl,rfl,trivial⟩,⟨(Ext.chg ((x12' ()).trans (show Ext w2 _ by exact fx)) c12).mono (fun y hy=>.inr (ho.base y hy)),by simp only;omega,by simp only;rw [ht];exact o12⟩,by simp only;omega⟩
 ·have e:la.take i=la:=tLe (by omega)
  rw [e] at ho
  repeat (first|refine go2 ?_|fail)
  exact aA rfl ⟨ho.lower x1.size,x1.trans x2⟩
end Go.Proofs.YteceapipdhnhdaaGreatDoor
end
section
namespace Go.K
open Go Go.Proofs.YteceapipdhnhdaaGreatDoor
theorem bCq {xs:List En} {m:List En} {i:Nat} (h:i<xs.length):lC (xs.drop i) m=if cH m xs[i].1=0∧dH m xs[i].1=xs[i].2 then lC (xs.drop (i+1)) (cY m xs[i].1) else (false,cY m xs[i].1):=by
 rw [List.drop_eq_getElem_cons h,lC]
theorem bGe {xs:List En} {m:List En} {i:Nat} (h:i<xs.length):yA (xs.drop i) m=if aV m xs[i].1 xs[i].2=0 then yA (xs.drop (i+1)) (cR m xs[i].1 xs[i].2) else (false,m):=by
 rw [List.drop_eq_getElem_cons h,yA]
end Go.K
namespace Go.Proofs.YteceapipdhnhdaaGreatDoor
open Go Go.K
attribute [local irreducible] aH aM aY KOp.wp K.Spec dH cY cR aV cH eF lC yA
set_option maxHeartbeats 2000000 in
theorem aF0 {b mb:Nat} {l out inn:List En} {vo vi:Value} (w:World) (hS:gE T.coins_Set w b mb l) (ho:SlR enR [b,mb] w vo out) (hi:SlR enR [b,mb] w vi inn) (hn1:out.length≤100000) (hn2:inn.length≤100000):K.Spec Tryz.prog F.block_swap [.pointer (some ⟨b,0,none⟩),vo,vi] w fun r w'=>r=.bool (xJ l out inn).1∧gE T.coins_Set w' b mb (xJ l out inn).2∧Chg [b,mb] w w':=by
 have hlt:=hS.lt
 refine aVa rfl ?_
 unfold aG7
 refine oy ?_
 repeat' (first|refine zG (d:=some 14) (E:=enR) (M:= [b,mb]) (l:=out) rfl ho ?_|(refine aJ (fun (p:Nat × List En) w'=>Chg [b,mb] w w'∧p.1≤out.length∧gE T.coins_Set w' b mb p.2∧lC out l=lC (out.drop p.1) p.2) (fun p=> [(0,.pointer (some ⟨b,0,none⟩)),(2,vi),(13,vo),(14,.int .i64 (out.length:Nat)),(15,.int .i64 (p.1:Nat))]) (fun p=>out.length - p.1) (0,l) ⟨rfl,rfl,rfl,rfl,rfl,trivial⟩ ⟨Chg.refl _ _,by simp,hS,rfl⟩ ?_;rintro ⟨i,m⟩ ρ w2 ⟨c2,hi2,hS2,hk⟩;simp only at hi2 hS2 hk;dsimp only)|refine zL (x:=.tmp 16) (p:=((i:Nat):Int)<((out.length:Nat):Int)) rfl (fun h6=>?_) (fun h6=>?_)|(first|refine go2 ?_|fail))
 ·have hil:i<out.length:=by omega
  rw [bCq hil] at hk
  have ho2:SlR enR [b,mb] w2 vo out:=ho.step c2 (fun y hy=>.inl hy) (fun y hy=>.inl hy)
  have s2:=c2.size
  obtain ⟨x,hx⟩:∃x,x=out[i]:=⟨_,rfl⟩
  rw [←hx] at hk
  repeat (first|(refine aR (d:=some 17) (E:=enR) (M:= [b,mb]) rfl rfl (n:=i) (l:=out) ho2 rfl hil (fun ad cs r4 he=>?_);rw [←hx] at he;obtain rfl:cs=cQ.f x:=he)|refine zE (d':=8) (fun _=>rfl) rfl rfl rfl (fun b7 w7 x7 a7 (r7:Row w7 ⟨b7,0,none⟩ (cQ.f x)) hb7=>?_)|(first|refine go2 ?_|fail))
  have l7:=a7.lt
  refine zC (d:=some 23) rfl (aOe x.1 _ (hS2.ext x7)) ?_
  rintro _ w8 ⟨rfl,S8,c8⟩
  have r8:Row w8 ⟨b7,0,none⟩ (cQ.f x):=Row.chg c8 r7 (by simp;omega)
  have c08:Unit→Chg [b,mb] w w8:=fun _=>(c2.trans (Chg.trans x7 c8)).mono (by simp)
  clear x7 a7 r7 c8 r4 c2
  repeat (first|refine zE (d':=9) (fun _=>rfl) rfl rfl rfl (fun b9 w9 x9 a9 (r9:Row w9 ⟨b9,0,none⟩ (dH m x.1).cs) hb9=>?_)|(first|refine go2 ?_|fail))
  have fin:∀{w':World},Ext w8 w'→Chg [b,mb] w w':=fun y=>((c08 ()).trans y).mono (by simp)
  by_cases h1:cH m x.1=0
  ·by_cases h2:dH m x.1=x.2
   ·rw [if_pos ⟨h1,h2⟩] at hk
    rw [h2] at r9
    rw [h1]
    repeat (first|refine aL (d:=some 32) (.bool false) rfl (congrArg (fun b=>some (Value.bool (!b))) ((aU8 x.2 x.2).trans (dTr rfl))) ?_|(first|refine go2 ?_|fail))
    exact ⟨(i+1,cY m x.1),⟨rfl,rfl,rfl,rfl,rfl,trivial⟩,⟨fin (by exact fx),by simp only;omega,S8.ext (by exact fx),hk⟩,by simp only;omega⟩
   ·rw [if_neg (fun q=>h2 q.2)] at hk
    rw [h1]
    repeat (first|refine aL (d:=some 32) (.bool true) rfl (congrArg (fun b=>some (Value.bool (!b))) ((aU8 (dH m x.1) x.2).trans (dFa h2))) ?_|(first|refine go2 ?_|fail))
    refine aA rfl ⟨?_,?_,fin (by exact fx)⟩
    ·unfold xJ;rw [hk];rfl
    ·unfold xJ;rw [hk];exact S8.ext (by exact fx)
  ·rw [if_neg (fun q=>h1 q.1)] at hk
   repeat (first|refine bO (t:=28) (p:=cH m x.1=0) rfl (fun _=>?_) (fun h=>absurd h h1)|(first|refine go2 ?_|fail))
   refine aA rfl ⟨?_,?_,fin (by exact fx)⟩
   ·unfold xJ;rw [hk];rfl
   ·unfold xJ;rw [hk];exact S8.ext (by exact fx)
 ·have ei:i=out.length:=by omega
  subst ei
  rw [List.drop_length,lC] at hk
  have hi3:SlR enR [b,mb] w2 vi inn:=hi.step c2 (fun y hy=>.inl hy) (fun y hy=>.inl hy)
  have hsw:xJ l out inn=yA inn m:=by unfold xJ;rw [hk];rfl
  rw [hsw]
  have s2:=c2.size
  repeat' (first|refine zG (d:=some 36) (E:=enR) (M:= [b,mb]) (l:=inn) rfl hi3 ?_|(refine aJ (fun (p:Nat × List En) w'=>Chg [b,mb] w2 w'∧p.1≤inn.length∧gE T.coins_Set w' b mb p.2∧yA inn m=yA (inn.drop p.1) p.2) (fun p=> [(0,.pointer (some ⟨b,0,none⟩)),(35,vi),(36,.int .i64 (inn.length:Nat)),(37,.int .i64 (p.1:Nat))]) (fun p=>inn.length - p.1) (0,m) ⟨rfl,rfl,rfl,rfl,trivial⟩ ⟨Chg.refl _ _,by simp,hS2,rfl⟩ ?_;rintro ⟨j,q⟩ ρ w3 ⟨c3,hj2,hS3,hk3⟩;simp only at hj2 hS3 hk3;dsimp only)|refine zL (x:=.tmp 38) (p:=((j:Nat):Int)<((inn.length:Nat):Int)) rfl (fun h7=>?_) (fun h7=>?_)|(first|refine go2 ?_|fail))
  ·have hjl:j<inn.length:=by omega
   rw [bGe hjl] at hk3
   have hi4:SlR enR [b,mb] w3 vi inn:=hi3.step c3 (fun y hy=>.inl hy) (fun y hy=>.inl hy)
   have s3:=c3.size
   obtain ⟨x,hx⟩:∃x,x=inn[j]:=⟨_,rfl⟩
   rw [←hx] at hk3
   repeat (first|(refine aR (d:=some 39) (E:=enR) (M:= [b,mb]) rfl rfl (n:=j) (l:=inn) hi4 rfl hjl (fun ad cs r4 he=>?_);rw [←hx] at he;obtain rfl:cs=cQ.f x:=he)|refine zE (d':=12) (fun _=>rfl) rfl rfl rfl (fun b7 w7 x7 a7 (r7:Row w7 ⟨b7,0,none⟩ (cQ.f x)) hb7=>?_)|(first|refine go2 ?_|fail))
   refine zC (d:=some 46) rfl (aTj x.1 x.2 _ (hS3.ext x7)) ?_
   rintro _ w8 ⟨rfl,S8,c8⟩
   have c08:Chg [b,mb] w2 w8:=(c3.trans (Chg.trans x7 c8)).mono (by simp)
   by_cases h1:aV q x.1 x.2=0
   ·rw [if_pos h1] at hk3
    rw [h1]
    repeat (first|refine go2 ?_|fail)
    exact ⟨(j+1,cR q x.1 x.2),⟨rfl,rfl,rfl,rfl,trivial⟩,⟨c08,by simp only;omega,S8,hk3⟩,by simp only;omega⟩
   ·rw [if_neg h1] at hk3
    have e:cR q x.1 x.2=q:=by unfold cR;rw [if_neg h1]
    rw [e] at S8
    repeat (first|refine zN (x:=.tmp 47) (p:=aV q x.1 x.2=0) rfl (fun _=>?_) (fun h=>absurd h h1)|(first|refine go2 ?_|fail))
    exact aA rfl ⟨by rw [hk3];rfl,by rw [hk3];exact S8,(c2.trans c08).mono (by simp)⟩
  ·have ej:j=inn.length:=by omega
   subst ej
   rw [List.drop_length,yA] at hk3
   repeat (first|refine go2 ?_|fail)
   exact aA rfl ⟨by rw [hk3];rfl,by rw [hk3];exact hS3,(c2.trans c3).mono (by simp)⟩
set_option maxHeartbeats 1000000 in
theorem aVp {b mb:Nat} {l spent made:List En} {sv mv:Value} (w:World) (hS:gE T.coins_Set w b mb l) (hs:SlR enR [b,mb] w sv spent) (hm:SlR enR [b,mb] w mv made) (hn1:spent.length≤100000) (hn2:made.length≤100000) (h1:(xJ l made spent).1=true):K.Spec Tryz.prog F.block_Revert [.pointer (some ⟨b,0,none⟩),.agg #[sv,mv]] w fun r w'=>r=.int .i64 0∧gE T.coins_Set w' b mb (xJ l made spent).2∧Chg [b,mb] w w':=by
 have hlt:=hS.lt
 have o1:sv.oneCell'=true:=by obtain ⟨_,_,rfl⟩:=hs.form;rfl
 have o2:mv.oneCell'=true:=by obtain ⟨_,_,rfl⟩:=hm.form;rfl
 refine aN0 rfl ?_
 unfold aCn
 refine oy ?_
 repeat' (first|refine zg (fun w1 x1=>?_)|refine zi (fun w1 x1=>?_)|refine dN (b:=.cons ⟨some 13,_,_⟩ _) (fun (p:Nat × Nat) w'=>Ext w w'∧gE T.coins_Set w' p.1 p.2 l∧w0.heap.size≤p.1∧w0.heap.size≤p.2∧Ext w0 w') (fun p=> [(0,.pointer (some ⟨b,0,none⟩)),(3,.pointer (some ⟨b3,0,none⟩)),(8,.pointer (some ⟨p.1,0,none⟩)),(10,mv),(12,sv)]) ?_ ?_|refine zD (d:=some 3) (cs:= [sv,mv]) rfl rfl (fun b3 w0 x0 a3 (r3:Row w0 ⟨b3,0,none⟩ [sv,mv]) hb3=>?_)|(refine zC (d:=some 8) rfl (aQl _ (hS.ext (by exact fx))) ?_;rintro _ w2 ⟨b8,mb8,rfl,hS8,hb8,hmb8,x2⟩)|(exact ⟨(b8,mb8),⟨rfl,rfl,rfl,rfl,rfl,trivial⟩,by exact fx,hS8.ext (by exact fx),nTr (Ext.size (show Ext w0 _ by exact fx)) hb8,nTr (Ext.size (show Ext w0 _ by exact fx)) hmb8,by exact fx⟩)|(first|refine go2 ?_|fail)|refine zB ?_ ?_)
 rintro ⟨b8,mb8⟩ ρ w3 ⟨x3,S8,hb80,hmb80,x03⟩
 simp only at S8 hb80 hmb80
 have l3:=a3.lt
 have s00:=x0.size
 have r33:Row w3 ⟨b3,0,none⟩ [sv,mv]:=Row.ext x03 r3
 have hb8:w.heap.size≤b8:=by omega
 have hmb8:w.heap.size≤mb8:=by omega
 have nin:∀y∈ [b8,mb8],w.heap.size≤y:=by intro y hy;simp at hy;rcases hy with rfl|rfl<;>assumption
 refine zC (d:=some 13) rfl (aF0 (b:=b8) (mb:=mb8) (l:=l) (out:=made) (inn:=spent) _ S8 (hm.step x3 (by simp) (fun y hy=>.inr (nin y hy))) (hs.step x3 (by simp) (fun y hy=>.inr (nin y hy))) hn2 hn1) ?_
 rintro _ w4 ⟨rfl,S4,c4⟩
 rw [h1]
 have x04:Ext w w4:=(Ext.chg x3 c4).mono (fun y hy=>.inr (nin y hy))
 have r34:Row w4 ⟨b3,0,none⟩ [sv,mv]:=Row.chg c4 r33 (by simp;omega)
 repeat (first|refine go2 ?_|fail)
 refine zC (d:=some 20) rfl (aF0 (l:=l) (out:=made) (inn:=spent) _ (hS.ext x04) (hm.ext x04) (hs.ext x04) hn2 hn1) ?_
 rintro _ w5 ⟨rfl,S5,c5⟩
 repeat (first|refine go2 ?_|fail)
 exact aA rfl ⟨rfl,S5,(Chg.trans x04 c5).mono (by simp)⟩
end Go.Proofs.YteceapipdhnhdaaGreatDoor
end
