/- Contracts: a block, by the program. Contracts: applying a bl -/
import Derived.Test.YteceapipdhnhdaaGreatDoorNa36
import Derived.Test.YteceapipdhnhdaaGreatDoorNa37
import Derived.Test.YteceapipdhnhdaaGreatDoorNa38
set_option linter.unusedVariables false
set_option linter.unusedSimpArgs false
namespace Go.Proofs.YteceapipdhnhdaaGreatDoor
section
open Go Go.K
attribute [local irreducible] aH aM aY KOp.wp K.Spec u32 leS vnS str aP aG aN bK idT aQ inE gJ nZ mY gG fP dH cY cR aV cH eF lC yA
set_option maxHeartbeats 2000000 in
theorem bFx {b mb:Nat} {M:List Nat} {cs:List Value} {t:Tx} {l:List En} (i:Nat) (h:Int) (w:World) (hS:gE T.coins_Set w b mb l) (hg:CG l) (hsc:SC l) (hb:b∈M) (hmb:mb∈M) (ht:txR.rel M w cs t) (hs:t.Sm):
  K.Spec Tryz.prog F.block_apply [.pointer (some ⟨b,0,none⟩),.agg cs.toArray,.int .i64 (i:Nat),.int .i64 h] w fun r w'=>dD w' 1 r (gG l t i h).2.1 (gG l t i h).2.2∧(∃l',gE T.coins_Set w' b mb l'∧((gG l t i h).2.1=0→l'=(gG l t i h).1))∧Chg [b,mb] w w':=by
 have ht0:=ht
 have hlt:=hS.lt
 have hin:=hs.ins
 obtain ⟨iv,ov,rfl,h1,h2,h3,h4⟩:=ht
 have sub:∀y∈ [b,mb],y∈M:=by intro y hy;simp at hy;rcases hy with rfl|rfl<;>assumption
 refine aQ0 rfl ?_
 unfold aEs
 refine oy ?_
 repeat (first|refine zD (d:=some 5) rfl rfl (fun bp wp xp ap (rp:Row wp ⟨bp,0,none⟩ (aK t iv ov)) hp0=>?_)|(first|refine go2 ?_|fail))
 refine zC (d:=some 16) rfl (bHa (M:=M) (t:=t) (cs:=aK t iv ov) (l:=l) i h _ (hS.ext xp) hsc (R.ext ht0 xp) hs) ?_
 rintro e w1 ⟨he,x1⟩
 have x01:=xp.trans x1
 have lp:=ap.lt
 have rp1:Row w1 ⟨bp,0,none⟩ (aK t iv ov):=Row.ext x1 rp
 by_cases hm:(nZ l t i h).1=0
 ·obtain ⟨rfl, -⟩:=he.nil_iff.1 hm
  have hc:=aJs hm
  have S1:=hS.ext x01
  have ht1:=R.ext ht0 x01
  have s01:=x01.size
  have lbp:bp<w1.heap.size:=nLt lp x1.size
  have hbn:bp∉ [b,mb]:=by simp;omega
  clear xp x1 ap rp he
  cases hgr:aN t with
  |true=>
   have hmid:oW l t=l:=by unfold oW;rw [if_pos hgr]
   repeat (first|(refine zC (d:=some 21) rfl (kA (M:=M) (t:=t) (cs:=aK t iv ov) _ (R.ext ht1 (by exact fx)) hs) ?_;rintro _ w2 ⟨rfl,x2⟩;rw [hgr])|(first|refine go2 ?_|fail))
   refine zC (d:=some 38) rfl (aSe (M:=M) (t:=t) (cs:=aK t iv ov) (m:=l) h _ (S1.ext x2) hb hmb (R.ext ht1 x2) hs hc) ?_
   rintro _ w3 ⟨rfl,S3,c3⟩
   rw [←hmid] at S3
   have c03:Chg [b,mb] w w3:=(Chg.trans x01 (Chg.trans x2 c3)).mono (by simp)
   by_cases hp:(mY (idT t) h 0 t.outs (oW l t)).2=0
   ·rw [hmid] at hp
    rw [if_pos hp]
    rw [←hmid] at hp
    have e:=bC2 hm hp
    repeat (first|refine go2 ?_|fail)
    exact aA rfl ⟨by rw [e];exact dD.none_ _ 1,⟨_,S3,fun _=>by rw [e]⟩,c03⟩
   ·rw [hmid] at hp
    rw [if_neg hp]
    rw [←hmid] at hp
    have e:=aVv hm hp
    repeat (first|refine go2 ?_|fail)
    exact aA rfl ⟨by rw [e,hmid];rw [hmid] at hp;exact dD.num _ 1 hp,⟨_,S3,fun q=>absurd (by rw [e] at q;exact q) hp⟩,c03⟩
  |false=>
   have hmid:oW l t=fP l t.ins:=by unfold oW;rw [if_neg (by rw [hgr];decide)]
   have h11:SlR inR M w1 iv t.ins:=h1.ext x01
   repeat' (first|(refine zC (d:=some 21) rfl (kA (M:=M) (t:=t) (cs:=aK t iv ov) _ (R.ext ht1 (by exact fx)) hs) ?_;rintro _ w2 ⟨rfl,x2⟩;rw [hgr])|refine zG (d:=some 25) (E:=inR) (M:=M) (l:=t.ins) rfl (SlR.ext h11 (by exact fx)) ?_|(refine aJ (fun (p:Nat) w'=>Chg [b,mb] w1 w'∧p≤t.ins.length∧gE T.coins_Set w' b mb (fP l (t.ins.take p))) (fun p=> [(0,.pointer (some ⟨b,0,none⟩)),(3,.int .i64 h),(5,.pointer (some ⟨bp,0,none⟩)),(24,iv),(25,.int .i64 (t.ins.length:Nat)),(26,.int .i64 (p:Nat))]) (fun p=>t.ins.length - p) 0 ⟨rfl,rfl,rfl,rfl,rfl,rfl,trivial⟩ ⟨Chg.mono x2 (by simp),by simp,by unfold fP;exact S1.ext (by exact fx)⟩ ?_;rintro k ρ w4 ⟨c4,hk,S4⟩)|refine zL (x:=.tmp 27) (p:=((k:Nat):Int)<((t.ins.length:Nat):Int)) rfl (fun h9=>?_) (fun h9=>?_)|(first|refine go2 ?_|fail))
   ·have hkl:k<t.ins.length:=by omega
    have h14:SlR inR M w4 iv t.ins:=h11.step c4 (fun y hy=>.inl (sub y hy)) (fun y hy=>.inl hy)
    have s4:=c4.size
    repeat (first|(refine aR (d:=some 28) (E:=inR) (M:=M) rfl rfl (n:=k) (l:=t.ins) h14 rfl hkl (fun ad cs r4 he=>?_);obtain ⟨wv,rfl,hwv,hp5,hp6⟩:=he)|refine zE (d':=11) (fun _=>rfl) rfl rfl (by have:=hwv.one;simp [fS,this];exact ⟨rfl,rfl,rfl⟩) (fun b7 w7 x7 a7 (r7:Row w7 ⟨b7,0,none⟩ (fS t.ins[k] wv)) hb7=>?_)|(first|refine go2 ?_|fail))
    refine zC (d:=some 33) rfl (aOe t.ins[k].p _ (S4.ext x7)) ?_
    rintro _ w8 ⟨rfl,S8,c8⟩
    repeat (first|refine go2 ?_|fail)
    exact ⟨k+1,⟨rfl,rfl,rfl,rfl,rfl,rfl,trivial⟩,⟨(c4.trans (Chg.trans x7 c8)).mono (by simp),by omega,by rw [zU hkl];exact S8⟩,by omega⟩
   ·have e:t.ins.take k=t.ins:=tLe (by omega)
    rw [e] at S4
    have ht4:txR.rel M w4 (aK t iv ov) t:=R.step txR ht1 c4 (fun y hy=>.inl (sub y hy)) (fun y hy=>.inl hy)
    have rp4:Row w4 ⟨bp,0,none⟩ (aK t iv ov):=Row.chg c4 rp1 hbn
    rw [←hmid] at S4
    repeat (first|refine go2 ?_|fail)
    refine zC (d:=some 38) rfl (aSe (M:=M) (t:=t) (cs:=aK t iv ov) (m:=oW l t) h _ S4 hb hmb ht4 hs hc) ?_
    rintro _ w5 ⟨rfl,S5,c5⟩
    have c05:Chg [b,mb] w w5:=(Chg.trans x01 (c4.trans c5)).mono (by simp)
    by_cases hp:(mY (idT t) h 0 t.outs (oW l t)).2=0
    ·rw [if_pos hp]
     have e:=bC2 hm hp
     repeat (first|refine go2 ?_|fail)
     exact aA rfl ⟨by rw [e];exact dD.none_ _ 1,⟨_,S5,fun _=>by rw [e]⟩,c05⟩
    ·rw [if_neg hp]
     have e:=aVv hm hp
     repeat (first|refine go2 ?_|fail)
     exact aA rfl ⟨by rw [e];exact dD.num _ 1 hp,⟨_,S5,fun q=>absurd (by rw [e] at q;exact q) hp⟩,c05⟩
 ·obtain ⟨et,eu,rfl⟩:=he.nil_iff.2 hm
  have e:=aIq hm
  repeat (first|refine go2 ?_|fail)
  exact aA rfl ⟨by rw [e];exact he,⟨l,hS.ext x01,fun q=>absurd (by rw [e] at q;exact q) hm⟩,Chg.mono x01 (by simp)⟩
end
section
open Go Go.K
attribute [local irreducible] aH aM aY KOp.wp K.Spec u32 leS vnS str aP aG aN bK idT aQ inE gJ nZ mY gG fP dH cY cR aV cH eF lC yA
def aPi (w:World) (v:Value) (c a i:Int):Prop:=c=0∧v=.nilIface∨c≠0∧(v=qO c∧a= -1∧i= -1∨0≤a∧∃b u,v=.iface T.P_api_Fault (.pointer (some ⟨b,0,none⟩))∧At w b (.cells [.int .i64 a,u].toArray T.api_Fault (0,0))∧dD w 1 u c i)
theorem dD.off {w w':World} {b6:Nat} {z:Array Value} {t:TypeId} (ha:At w b6 (.cells z t (0,0))) (ht:t≠T.api_Fault) (cc:Chg [b6] w w'):∀{d:Nat} {v:Value} {c a:Int},dD w d v c a→dD w' d v c a
 |0,_,_,_,h=>h
 |_+1,_,_,_,.inl h=>.inl (dD.off ha ht cc h)
 |_+1,_,_,_,.inr ⟨h1,h2,b,u,a',h3,h4,h5⟩=>.inr ⟨h1,h2,b,u,a',h3,h4.chg cc (by
   simp only [List.mem_singleton]
   intro e
   subst e
   have:=h4.inj ha
   simp only [Obj.cells.injEq] at this
   exact ht this.2.1.symm),dD.off ha ht cc h5⟩
theorem bBf (txs:List Tx) (k:Nat):dT (txs.take k)≤dT txs:=by
 unfold dT
 rw [List.map_take]
 have:=List.sum_append_nat (l₁:=(txs.map fun t=>t.outs.length).take k) (l₂:=(txs.map fun t=>t.outs.length).drop k)
 rw [List.take_append_drop] at this
 omega
theorem bA9 {txs:List Tx} {k:Nat} (h:k<txs.length):dT (txs.take (k+1))=dT (txs.take k)+txs[k].outs.length:=by
 unfold dT
 rw [List.take_succ_eq_append_getElem h,List.map_append,List.sum_append_nat];simp
set_option maxHeartbeats 4000000 in
theorem aL2 {b mb:Nat} {M:List Nat} {v:Value} {txs:List Tx} {l:List En} (h:Int) (w:World) (hS:gE T.coins_Set w b mb l) (hg:CG l) (hsc:SC l) (hb:b∈M) (hmb:mb∈M) (hM:∀y∈M,y<w.heap.size) (hx:SlR txR M w v txs) (hs:∀t∈txs,t.Sm) (hn:l.length+dT txs≤80000) (hk0:txs.length≤1000):
  K.Spec Tryz.prog F.block_Apply [.pointer (some ⟨b,0,none⟩),v,.int .i64 h] w fun r w'=>∃sv mv e,r=.tuple #[.agg #[sv,mv],e]∧aPi w' e (aX l txs h).2.1 (aX l txs h).2.2.1 (aX l txs h).2.2.2∧gE T.coins_Set w' b mb (aX l txs h).1∧
   ((aX l txs h).2.1=0→SlE cQ w' sv (eF l (aX l txs h).1)∧SlE cQ w' mv (eF (aX l txs h).1 l)∧∀y,y∈aC sv∨y∈aC mv→w.heap.size≤y)∧((aX l txs h).2.1≠0→sv=.slice none 0 0∧mv=.slice none 0 0)∧Chg [b,mb] w w':=by
 have hlt:=hS.lt
 have hbmb:=hS.ne
 refine aQ7 rfl ?_
 unfold aEq
 refine oy ?_
 by_cases hr:0≤h∧h≤1000000
 ·have eA:aX l txs h=kG l h 0 txs l:=by unfold aX;rw [if_neg (by omega)]
  rw [eA]
  repeat' (first|refine zH (d:=some 6) (fun b6 w1 x1 a1 hb6=>?_)|refine aL (d:=some 20) (.bool false) rfl (congrArg (fun b=>some (Value.bool b)) (dFa (by omega))) ?_|refine aL (d:=some 23) (.bool false) rfl (congrArg (fun b=>some (Value.bool b)) (dFa (by omega))) ?_|(refine zC (d:=some 28) rfl (aQl _ (hS.ext (by exact fx))) ?_;rintro _ w2 ⟨nb,nmb,rfl,N2,hnb,hnmb,x2⟩)|refine zG (d:=some 30) (E:=txR) (M:=M) (l:=txs) rfl (SlR.ext hx (by exact fx)) ?_|(first|refine go2 ?_|fail))
  have s1:=x1.size
  have s2:=x2.size
  have l6:=a1.lt
  have x02:Ext w w2:=x1.trans x2
  have a62:=At.ext x2 a1
  have nin:∀y∈ [nb,nmb],w1.heap.size≤y:=by intro y hy;simp at hy;rcases hy with rfl|rfl<;>assumption
  have x02':Unit→Ext w w2:=fun _=>x02
  have nlt:=N2.lt
  refine aJ (fun (p:Nat × List En) w'=>Ext w w'∧Ext w1 w'∧p.1≤txs.length∧gE T.coins_Set w' nb nmb p.2∧CG p.2∧SC p.2∧aE1 l h txs p.1 p.2) (fun p=> [(0,.pointer (some ⟨b,0,none⟩)),(2,.int .i64 h),(6,.pointer (some ⟨b6,0,none⟩)),(8,.pointer (some ⟨nb,0,none⟩)),(29,v),(30,.int .i64 (txs.length:Nat)),(31,.int .i64 (p.1:Nat))]) (fun p=>txs.length - p.1) (0,l) ⟨rfl,rfl,rfl,rfl,rfl,rfl,rfl,trivial⟩ ⟨x02,x2,by simp,N2,hg,hsc,aNr⟩ ?_
  rintro ⟨k,m⟩ ρ w3 ⟨x3,x13,hk,N3,g3,sc3,hok⟩
  simp only at hk N3 g3 sc3 hok
  dsimp only
  have a63:=At.ext x13 a1
  have s13:=x13.size
  repeat (first|refine go2 ?_|fail)
  refine zL (x:=.tmp 32) (p:=((k:Nat):Int)<((txs.length:Nat):Int)) rfl (fun h6=>?_) (fun h6=>?_)
  ·have hkl:k<txs.length:=by omega
   have hst:=hs _ (gMe hkl)
   have hx3:SlR txR (nb::nmb::M) w3 v txs:=hx.step x3 (by simp) (fun y hy=>by
    simp only [List.mem_cons] at hy
    rcases hy with rfl|rfl|hy
    ·exact .inr (by omega)
    ·exact .inr (by omega)
    ·exact .inl hy)
   have x03':Unit→Ext w w3:=fun _=>x3
   have x13':Unit→Ext w1 w3:=fun _=>x13
   clear x3 x13 x02 x1 x2
   repeat (first|(refine aR (d:=some 34) (E:=txR) (M:=nb::nmb::M) rfl rfl (n:=k) (l:=txs) hx3 rfl hkl (fun ad cs r4 he=>?_);obtain ⟨iv,ov,rfl,p1,p2,p3⟩:=id he)|refine zH (d:=some 10) (fun b10 w4 x4 a4 hb10=>?_)|(first|refine go2 ?_|fail))
   have o1:=p1.one
   have o2:=p2.one
   refine aW (w0:=w3) (n:=4) (vs:=aK txs[k] iv ov) x4 hb10 a4 rfl rfl rfl rfl (by simp [aK,o1,o2];exact ⟨rfl,rfl⟩) (fun w5 x5 c5 a5 r5=>?_)
   repeat (first|refine go2 ?_|fail)
   refine zC (d:=some 40) rfl (bFx (M:=nb::nmb::M) (cs:=aK txs[k] iv ov) (t:=txs[k]) (l:=m) k h _ (N3.ext x5) g3 sc3 (by simp) (by simp) (R.ext he x5) hst) ?_
   rintro e w6 ⟨he6,⟨m',N6,hm'⟩,c6⟩
   have x06:Ext w w6:=(Ext.chg ((x03' ()).trans x5) c6).mono (fun y hy=>.inr (by have:=nin y hy;omega))
   have x16:Ext w1 w6:=(Ext.chg ((x13' ()).trans x5) c6).mono (fun y hy=>.inr (nin y hy))
   clear x4 x5 a4 c5 a5 r5 c6 p1 p2 r4
   by_cases h0:(gG m txs[k] k h).2.1=0
   ·obtain ⟨rfl, -⟩:=he6.nil_iff.1 h0
    repeat (first|refine go2 ?_|fail)
    exact ⟨(k+1,m'),⟨rfl,rfl,rfl,rfl,rfl,rfl,rfl,trivial⟩,⟨x06,x16,by simp only;omega,N6,by rw [hm' h0];exact aAl g3 _ _ _,by rw [hm' h0];exact aT9 g3 sc3 _ _ _,by rw [hm' h0];exact aN1 hkl hok h0⟩,by simp only;omega⟩
   ·obtain ⟨et,eu,rfl⟩:=he6.nil_iff.2 h0
    have eR:=aR6 hkl hok h0
    rw [eR]
    have a66:=At.ext x16 a1
    repeat (first|refine aZ (d:=some 46) (cs:= [.int .i64 (k:Nat),.iface et eu]) rfl ?_|refine zD (d:=some 47) (cs:= [.int .i64 (k:Nat),.iface et eu]) rfl rfl (fun b8 w8 x8 a8 r8 hb8=>?_)|(first|refine go2 ?_|fail))
    refine aW (w0:=w) (n:=2) (vs:= [.slice none 0 0,.slice none 0 0]) (x06.trans x8) (by omega) (At.ext x8 a66) rfl rfl rfl rfl rfl (fun w9 x9 c9 a9 r9=>?_)
    repeat (first|refine go2 ?_|fail)
    have l8:=a8.lt
    have h68:w1.heap.size≤b8:=nTr x16.size hb8
    exact aA (iY (bA r9 rfl rfl) bI) ⟨.slice none 0 0,.slice none 0 0,_,rfl,.inr ⟨h0,.inr ⟨(show (0:Int)≤((k:Nat):Int) by omega),b8,_,rfl,At.chg c9 a8 (by simp;omega),dD.off (At.ext x8 a66) (by decide) c9 (he6.ext x8)⟩⟩,hS.ext x9,fun q=>absurd q h0,fun _=>⟨rfl,rfl⟩,Chg.mono x9 (by simp)⟩
  ·have ek:txs.length≤k:=by omega
   have eR:=aTt ek hok
   rw [eR]
   have S3:=hS.ext x3
   have hlm:m.length≤80000:=by
    have:=aFj hg txs h
    rw [eA,eR] at this
    simp only at this;omega
   have x03':Unit→Ext w w3:=fun _=>x3
   have s03:=x3.size
   clear x3 x02 x1 x2
   repeat (first|refine go2 ?_|fail)
   refine zC (d:=some 52) rfl (aQp _ S3 N3 (by omega)) ?_
   rintro sv w4 ⟨osv,x4⟩
   repeat (first|refine go2 ?_|fail)
   refine zC (d:=some 55) rfl (aQp _ (N3.ext x4) (S3.ext x4) (by omega)) ?_
   rintro mv w5 ⟨omv,x5⟩
   have osv5:=osv.ext x5
   obtain ⟨q1,q2,hsv⟩:=osv5.sl.form
   obtain ⟨q3,q4,hmv⟩:=omv.sl.form
   have one1:sv.oneCell'=true:=by obtain ⟨_,_,e⟩:=osv5.sl.form;rw [e];rfl
   have one2:mv.oneCell'=true:=by obtain ⟨_,_,e⟩:=omv.sl.form;rw [e];rfl
   have hl1:=yP l m
   have hl2:=yP m l
   have bs1:=osv5.base
   have bs2:=omv.base
   have s34:=x4.size
   have s45:=x5.size
   repeat (first|refine aZ (d:=some 56) (cs:= [sv,mv]) (by rw [hsv,hmv];rfl) ?_|refine zE (d':=12) (fun _=>rfl) rfl rfl (by show List.all [sv,mv] _=true;simp only [List.all_cons,List.all_nil,one1,one2];rfl) (fun b12 w6 x6 a12 (r12:Row w6 ⟨b12,0,none⟩ [sv,mv]) hb12=>?_)|(first|refine go2 ?_|fail))
   have x36:Ext w3 w6:=x4.trans (x5.trans x6)
   have osv6:=osv5.ext x6
   have omv6:=omv.ext x6
   have off1:SlR enR [b,mb,b6] w6 sv (eF l m):=osv6.sl.en fun y hy hm=>by
    have:=bs1 y hy
    simp at hm
    omega
   have off2:SlR enR [b,mb,b6] w6 mv (eF m l):=omv6.sl.en fun y hy hm=>by
    have:=bs2 y hy
    simp at hm
    omega
   refine zC (d:=some 62) rfl (aF0 (l:=l) (out:=eF l m) (inn:=eF m l) _ (S3.ext x36) (off1.sub (fun y hy=>.inl (by simp at hy ⊢;omega))) (off2.sub (fun y hy=>.inl (by simp at hy ⊢;omega))) (by omega) (by omega)) ?_
   rintro _ w7 ⟨rfl,S7,c7⟩
   rw [aTe hg g3] at S7
   have r127:Row w7 ⟨b12,0,none⟩ [sv,mv]:=Row.chg c7 r12 (by simp;omega)
   have a67:=At.chg c7 (At.ext x36 a63) (by simp;omega)
   have off17:=off1.step c7 (M':= [b6]) (fun y hy=>.inl (by simp at hy ⊢;omega)) (fun y hy=>.inl (by simp at hy ⊢;omega))
   have off27:=off2.step c7 (M':= [b6]) (fun y hy=>.inl (by simp at hy ⊢;omega)) (fun y hy=>.inl (by simp at hy ⊢;omega))
   have c07:Chg [b,mb] w w7:=(Chg.trans ((x03' ()).trans x36) c7).mono (by simp)
   clear x4 x5 x6 x36 c7 a12 r12 off1 off2 osv6 omv6 osv5 osv omv
   repeat (first|refine go2 ?_|fail)
   refine cE (b:=b6) (vs:= [sv,mv]) rfl rfl rfl (by simp [one1,one2]) a67 rfl (fun w8 c8 a8=>?_)
   repeat (first|refine go2 ?_|fail)
   have S8:gE T.coins_Set w8 b mb m:=S7.chg c8 (by simp;omega) (by simp;omega)
   have fin1:=off17.step c8 (M':= []) (fun y hy=>.inl hy) (by simp)
   have fin2:=off27.step c8 (M':= []) (fun y hy=>.inl hy) (by simp)
   refine aA (iY (bA (Row.of_at a8) rfl rfl) bI) ⟨sv,mv,_,rfl,.inl ⟨rfl,rfl⟩,S8,fun _=>⟨fin1.en,fin2.en,fun y hy=>?_⟩,fun q=>absurd rfl q,?_⟩
   ·rcases hy with hy|hy
    ·have:=bs1 y hy;omega
    ·have:=bs2 y hy;omega
   ·refine (c07.trans c8).mono ?_
    intro y hy
    simp at hy ⊢
    omega
 ·have eA:aX l txs h=(l,3, -1, -1):=by unfold aX;rw [if_pos (by omega)]
  rw [eA]
  repeat' (first|refine zH (d:=some 6) (fun b6 w1 x1 a1 hb6=>?_)|refine zJ (t:=21) (p:=h<0) rfl (fun hh=>?_) (fun hh=>?_)|refine zL (x:=.tmp 18) rfl (fun _=>?_) (fun h=>absurd (by omega) h)|(first|refine go2 ?_|fail))
  all_goals
   refine aW (w0:=w) (n:=2) (vs:= [.slice none 0 0,.slice none 0 0]) x1 hb6 a1 rfl rfl rfl rfl rfl (fun w9 x9 c9 a9 r9=>?_)
   repeat (first|refine go2 ?_|fail)
   exact aA (iY (bA r9 rfl rfl) bI) ⟨.slice none 0 0,.slice none 0 0,_,rfl,.inr ⟨(show (3:Int)≠0 by decide),.inl ⟨rfl,rfl,rfl⟩⟩,hS.ext x9,fun q=>absurd q (show ¬(3:Int)=0 by decide),fun _=>⟨rfl,rfl⟩,Chg.mono x9 (by simp)⟩
end
section
open Go Go.K
attribute [local irreducible] aH aM aY KOp.wp K.Spec u32 leS vnS str aP cM bK idT aQ aG aN idN bG cL cB bQ cF fM dC bV aO kZ fL wF qP bP evL inS inB mT iI lI jR jO uE nH fB iN gJ pD cA bS aU bN eX eV iS pU
theorem Gr.low {w:World} {B B' g:Nat} {M:List Nat} {l:List Ent} (h:Gr w B g M l) (hb:B'≤B):Gr w B' g M l:=by
 obtain ⟨b1,vo,b2,m,sp,hP,e⟩:=h
 have:=hP.lo
 exact ⟨b1,vo,b2,m,sp,⟨hP.at_,hP.ents,hP.pts,hP.ord.lower hb,hP.inv,hP.nd,by omega,by omega,by omega⟩,e⟩
end
section
open Go Go.K
attribute [local irreducible] aH aM aY KOp.wp K.Spec u32 leS vnS str aP cM bK idT aQ aG aN idN bG cL cB bQ cF fM dC bV aO kZ fL wF qP bP evL inS inB mT iI lI jR jO uE nH fB iN gJ pD cA bS aU bN eX eV iS pU
set_option maxHeartbeats 4000000 in
theorem bF2 {B g:Nat} {M N U:List Nat} {l:List Ent} {cs:List Value} {t:Tx} {v:Value} {f:Pt→Option Cn} (h rate:Int) (w:World) (hG0:GrU w B g M U l) (hU:∀b∈U,b<w.heap.size) (hUN:∀b∈U,b∈N) (hV:gV w v f) (ht:txR.rel N w cs t) (hs:t.Sm) (hN:∀b∈N,b<w.heap.size) (hMN:∀b∈M,b∈N) (hl:l.length≤1000) (hf:∀x∈l,x.fee≤1000000000000):
  K.Spec Tryz.prog F.pool_Accept [.pointer (some ⟨g,0,none⟩),.agg cs.toArray,aEx v h rate] w fun r w'=>∃u e M',r=.tuple #[u,e]∧Own bB T.string w.heap.size w' u (eV f l t h rate)∧dD w' 1 e (eX f l t h rate).1 (eX f l t h rate).2∧GrU w' B g M' U (iS f l t h rate)∧Chg M w w'∧(∀b∈M',b∈M∨w.heap.size≤b)∧(∀b∈aC u,b∉M'):=by
 have hG:=hG0.gr
 have ht0:=ht
 have hM:∀b∈M,b<w.heap.size:=fun b hb=>hN b (hMN b hb)
 obtain ⟨iv,ov,rfl,hi,ho,hv⟩:=ht
 obtain ⟨vt,vu,rfl⟩:∃vt vu,v=.iface vt vu:=by obtain ⟨⟨a,b,e,_⟩,_⟩:=hV;exact ⟨a,b,e⟩
 have fail:∀{w':World} {e:Value} {c a:Int},Ext w w'→eX f l t h rate=(c,a)→eV f l t h rate= []→iS f l t h rate=l→dD w' 1 e c a→∃u e' M',Value.tuple #[.slice none 0 0,e]=.tuple #[u,e']∧Own bB T.string w.heap.size w' u (eV f l t h rate)∧dD w' 1 e' (eX f l t h rate).1 (eX f l t h rate).2∧GrU w' B g M' U (iS f l t h rate)∧Chg M w w'∧(∀b∈M',b∈M∨w.heap.size≤b)∧(∀b∈aC u,b∉M'):=fun x e1 e2 e3 he=>
  ⟨_,_,M,rfl,by rw [e2];exact Own.nil _ _ _,by rw [e1];exact he,by rw [e3];exact hG0.ext x,x.mono (by simp),fun b hb=>.inl hb,fun b hb=>by simp [aC] at hb⟩
 by_cases h0:(aU f l t h).2.1=0
 ·obtain ⟨hc,hg,hh,hgood⟩:=pX h0
  have hgf:=(bR _).1 hgood
  have hz:=(cI hs hc).sizeM
  have e0:pG t=.tuple #[.int .i64 (aQ t:Nat),.int .i64 0]:=by rw [pG,if_pos hc]
  generalize hfee:(aU f l t h).1=fee at*
  refine wO rfl ?_
  unfold qD
  refine oy ?_
  repeat (first|refine zD (d:=some 4) rfl rfl (fun bt wt xt bt' (rt:Row wt ⟨bt,0,none⟩ (aK t iv ov)) hbt0=>?_)|refine zD (d:=some 5) (cs:= [.iface vt vu,.int .i64 h,.int .i64 rate]) rfl rfl (fun bs ws xs bs' (rs:Row ws ⟨bs,0,none⟩ [.iface vt vu,.int .i64 h,.int .i64 rate]) hbs0=>?_)|(refine zC (d:=some 21) rfl (aFk (M:=M) (N:=N) (l:=l) (f:=f) (cs:=aK t iv ov) (t:=t) h rate _ (hG.r.ext (by exact fx)) (fun b hb=>nLt (hM b hb) (Ext.size (by exact fx))) (hV.ext (by exact fx)) (R.ext ht0 (by exact fx)) hs) ?_;rintro _ w3 ⟨e,rfl,he,x3⟩;obtain ⟨hn1,hn2⟩:=he.nil_iff)|(first|refine go2 ?_|fail))
  obtain ⟨rfl, -⟩:=hn1 h0
  rw [hfee]
  clear he hn1 hn2
  repeat (first|(refine zC rfl (iK _ (R.ext ht0 fx) hs) ?_;rintro _ w4 ⟨rfl,x4⟩;rw [e0])|(refine zC rfl (bBk (.iface vt vu) rfl h rate (aQ t) (by omega) _) ?_;rintro _ w5 ⟨rfl,x5⟩)|(first|refine go2 ?_|fail))
  refine zL rfl (fun h1=>?_) (fun h1=>?_)
  ·have e:=bEo h0 (by rw [hfee];exact h1)
   obtain ⟨e2,e3⟩:=aWa (by decide) e
   repeat (first|refine go2 ?_|fail)
   exact aA rfl (fail fx e e2 e3 (dD.num _ _ (by decide)))
  repeat (first|(refine zC rfl (bBv fee _ (hG.r.ext fx) (fun b hb=>nLt (hM b hb) (Ext.size fx)) (R.ext ht0 fx) hs hl hf) ?_;rintro _ w6 ⟨rfl,x6⟩)|(first|refine go2 ?_|fail))
  refine zN rfl (fun h2=>?_) (fun h2=>?_)
  ·have e:=aR5 h0 (by rw [hfee];exact h1) (by rw [hfee];exact h2)
   obtain ⟨e2,e3⟩:=aWa (by rw [hfee];exact h2) e
   rw [hfee] at e
   repeat (first|refine go2 ?_|fail)
   exact aA rfl (fail fx e e2 e3 (dD.num _ _ h2))
  repeat (first|refine go2 ?_|fail)
  refine zC rfl (kJ _ (hG.r.ext fx) (fun b hb=>nLt (hM b hb) (Ext.size fx)) (R.ext ht0 fx) hs.ins hl) ?_
  rintro u w8 ⟨ou8,x7⟩
  have rt8:Row w8 ⟨bt,0,none⟩ (aK t iv ov):=rt.ext fx
  have t8:=R.ext ht0 (show Ext w w8 by exact fx)
  have G8u:GrU w8 B g M U l:=hG0.ext (show Ext w w8 by exact fx)
  have G8:Gr w8 B g M l:=G8u.gr
  have hbu:∀b∈aC u,w.heap.size≤b:=fun b hb=>nTr (Ext.size (show Ext w w6 by exact fx)) (ou8.base b hb)
  have hbl:∀b∈aC u,b<w8.heap.size:=fun b hb=>Own.blk_lt ou8 b hb
  have s06:w.heap.size≤w6.heap.size:=Ext.size (show Ext w w6 by exact fx)
  have x08:Unit→Ext w w8:=fun _=>by exact fx
  have s08:=(x08 ()).size
  clear x3 x4 x5 x6 x7 xs xt rt rs bt' bs'
  have su:=ou8.sl
  have hM8:∀b∈M,b<w8.heap.size:=fun b hb=>nLt (hM b hb) s08
  have hid:(aO l (evL l t)).length≤1000:=nTr (rV l (evL l t)) hl
  obtain ⟨ids,hids⟩:∃ids,aO l (evL l t)=ids:=⟨_,rfl⟩
  rw [hids] at ou8 su hid
  repeat' (first|refine zg (fun w9 x9=>?_)|refine fG ?_ ?_|(refine zC rfl (aWc _ (G8.ext fx).r (fun b hb=>nLt (hM8 b hb) (Ext.size fx)) hl (su.ext fx) hid) ?_;rintro _ w10 ⟨g1,M1,rfl,g10,x10⟩)|refine dN (fun (p:Nat × List Nat) w'=>Ext w8 w'∧Gr w' w8.heap.size p.1 p.2 (bN l ids)) (fun p=> [(0,.pointer (some ⟨g,0,none⟩)),(4,.pointer (some ⟨bt,0,none⟩)),(8,.int .i64 fee),(13,u),(51,.pointer (some ⟨p.1,0,none⟩)),(52,.agg (aK t iv ov).toArray)]) ?_ ?_|(rintro ⟨g1,M1⟩ ρ7 w10 ⟨x10,g10⟩;try dsimp only)|(exact ⟨(g1,M1),⟨rfl,rfl,rfl,rfl,rfl,rfl,trivial⟩,by exact fx,Gr.low g10 (Ext.size x9)⟩)|(first|refine go2 ?_|fail))
  have hrest:tA l t=bN l ids:=by unfold tA;rw [hids]
  dsimp only at g10
  refine zC rfl (aRw _ g10.r (Gr.lt g10) (R.ext t8 x10) hs (nTr (qJ ids l) hl)) ?_
  rintro _ w11 ⟨rfl,x11⟩
  repeat (first|refine go2 ?_|fail)
  have rt11:Row w11 ⟨bt,0,none⟩ (aK t iv ov):=rt8.ext fx
  have x811:Ext w8 w11:=x10.trans x11
  have t11:=R.ext t8 x811
  have G11:=G8u.ext x811
  have ou11:=ou8.ext x811
  have s811:=x811.size
  have x011:Unit→Ext w w11:=fun _=>(x08 ()).trans x811
  clear x10 x11 x811 g10 rt8 ou8 su
  refine zN rfl (fun h3=>?_) (fun h3=>?_)
  ·have e:=aZm h0 (by rw [hfee];exact h1) (by rw [hfee];exact h2) (by rw [hrest];exact h3)
   rw [hrest] at e
   obtain ⟨e2,e3⟩:=aWa h3 e
   repeat (first|refine go2 ?_|fail)
   exact aA rfl (fail (x011 ()) e e2 e3 (dD.num _ _ h3))
  obtain ⟨e1,e2,e3⟩:=bJj h0 (by rw [hfee];exact h1) (by rw [hfee];exact h2) (by rw [hrest];exact h3)
  rw [hids] at e2
  rw [hrest,hfee] at e3
  have d0:bN l (ids.take 0)=l:=by unfold bN;rfl
  have huM:∀a m c,u=.slice (some a) m c→a.block∉M:=fun a m c e hb=>by
   have h5:=hbu a.block (by rw [e];simp [aC])
   have h6:=hM _ hb
   omega
  repeat (first|refine bL rfl ou11.sl ?_|(refine aJ (fun (p:Nat × List Nat) w'=>Chg M w11 w'∧p.1≤ids.length∧GrU w' B g p.2 U (bN l (ids.take p.1))∧(∀b∈p.2,b∈M∨w11.heap.size≤b)) (fun p=> [(0,.pointer (some ⟨g,0,none⟩)),(4,.pointer (some ⟨bt,0,none⟩)),(8,.int .i64 fee),(13,u),(58,u),(59,.int .i64 (ids.length:Nat)),(60,.int .i64 (p.1:Nat))]) (fun p=>ids.length - p.1) (0,M) ⟨rfl,rfl,rfl,rfl,rfl,rfl,rfl,trivial⟩ ⟨Chg.refl _ _,by simp,by rw [d0];exact G11,fun b hb=>.inl hb⟩ ?_;rintro ⟨i,Mi⟩ ρ w12 ⟨c12,hil,g12,m12⟩;simp only at hil g12 m12;dsimp only)|(first|refine go2 ?_|fail))
  have hlen:(bN l (ids.take i)).length≤1000:=nTr (qJ _ l) hl
  have s12:=c12.size
  refine zL rfl (fun h=>?_) (fun h=>?_)
  ·have hii:i<ids.length:=by omega
   have su12:=SlE.chg c12 ou11.sl huM
   repeat' (first|(refine aT rfl rfl su12 rfl hii (fun ad r5=>?_);have r5:Row w12 ad [Value.string ids[i]]:=r5)|(refine zC rfl (aZ3 ids[i] _ g12 (fun b hb=>by have:=hU b hb;have:=(x011 ()).size;omega) hlen) ?_;rintro _ w13 ⟨M4,rfl,g13,c13,m13⟩)|(first|refine go2 ?_|fail))
   refine ⟨(i+1,M4),⟨rfl,rfl,rfl,rfl,rfl,rfl,rfl,trivial⟩,⟨(c12.trans c13).mono (fun b hb=>?_),hii,by show GrU w13 B g M4 U (bN l (ids.take (i+1)));rw [rZ hii];exact g13,fun b hb=>?_⟩,by show ids.length - (i+1)<ids.length - i;omega⟩
   ·rcases List.mem_append.1 hb with h5|h5
    ·exact .inl h5
    ·exact m12 b h5
   ·rcases m13 b hb with h5|h5
    ·exact m12 b h5
    ·exact .inr (nTr s12 h5)
  ·have hei:ids.take i=ids:=tLe (by omega)
   rw [hei] at g12 hlen
   have rt12:Row w12 ⟨bt,0,none⟩ (aK t iv ov):=rt11.chg c12 (fun hb=>by have:bt<w.heap.size:=hM bt hb;omega)
   have t12:txR.rel (N++Mi) w12 (aK t iv ov) t:=R.step txR t11 c12 (fun b hb=>.inl (hMN b hb)) (fun b hb=>by
    rcases List.mem_append.1 hb with h5|h5
    ·exact .inl h5
    ·exact (m12 b h5).imp (hMN b) id)
   have hN12:∀b∈N++Mi,b<w12.heap.size:=fun b hb=>by
    rcases List.mem_append.1 hb with h5|h5
    ·have:=hN b h5;omega
    ·exact Gr.lt g12.gr b h5
   repeat' (first|(refine zC rfl (bEc fee _ g12 (fun b hb=>List.mem_append_left _ (hUN b hb)) t12 hs (by unfold rT;omega) hN12 (fun b hb=>List.mem_append_right _ hb) hlen) ?_;rintro _ w14 ⟨M7,rfl,g14,c14,m14⟩)|(first|refine go2 ?_|fail))
   have hdis:∀b∈aC u,b∉Mi:=fun b hb hm=>by
    rcases m12 b hm with h5|h5
    ·have:=hM b h5;have:=hbu b hb;omega
    ·have:=hbl b hb;omega
   have hdis0:∀b∈aC u,b∉M:=fun b hb hm=>by have:=hM b hm;have:=hbu b hb;omega
   refine aA rfl ⟨u,.nilIface,M7,rfl,?_,by rw [e1];exact dD.none_ _ _,by rw [e3];exact g14,?_,fun b hb=>?_,fun b hb hm=>?_⟩
   ·rw [e2]
    exact ((ou11.chg c12 hdis0).chg c14 hdis).lower (by omega)
   ·refine (Ext.chg (x011 ()) (c12.trans c14)).mono (fun b hb=>?_)
    rcases List.mem_append.1 hb with h5|h5
    ·exact .inl h5
    ·rcases m12 b h5 with h6|h6
     ·exact .inl h6
     ·exact .inr (by omega)
   ·rcases m14 b hb with h5|h5
    ·rcases m12 b h5 with h6|h6
     ·exact .inl h6
     ·exact .inr (by omega)
    ·exact .inr (by omega)
   ·rcases m14 b hm with h5|h5
    ·exact hdis b hb h5
    ·have:=hbl b hb;omega
 ·obtain ⟨e1,e2,e3⟩:=aTw h0
  refine wO rfl ?_
  unfold qD
  refine oy ?_
  repeat (first|refine zD (d:=some 4) rfl rfl (fun bt wt xt bt' (rt:Row wt ⟨bt,0,none⟩ (aK t iv ov)) hbt0=>?_)|refine zD (d:=some 5) (cs:= [.iface vt vu,.int .i64 h,.int .i64 rate]) rfl rfl (fun bs ws xs bs' (rs:Row ws ⟨bs,0,none⟩ [.iface vt vu,.int .i64 h,.int .i64 rate]) hbs0=>?_)|(refine zC (d:=some 21) rfl (aFk (M:=M) (N:=N) (l:=l) (f:=f) (cs:=aK t iv ov) (t:=t) h rate _ (hG.r.ext (by exact fx)) (fun b hb=>nLt (hM b hb) (Ext.size (by exact fx))) (hV.ext (by exact fx)) (R.ext ht0 (by exact fx)) hs) ?_;rintro _ w3 ⟨e,rfl,he,x3⟩;obtain ⟨hn1,hn2⟩:=he.nil_iff)|(first|refine go2 ?_|fail))
  obtain ⟨et,eu,rfl⟩:=hn2 h0
  repeat (first|refine go2 ?_|fail)
  exact aA rfl (fail fx e1 e2 e3 (he.ext fx))
end
section
open Go Go.K
def EtR (w:World):Prop:=w.cell? ⟨0,0,none⟩=some (.iface 176 (.agg #[.pointer (some ⟨4,53,none⟩)]))
theorem EtR.lt {w:World} (h:EtR w):0<w.heap.size:=cell_lt h
theorem EtR.chg {L:List Nat} {w w':World} (h:EtR w) (x:Chg L w w') (hL:∀y∈L,0<y):EtR w':=by
 unfold EtR at h ⊢
 rw [cell_of_heap (x.block _ (EtR.lt h) (fun hm=>Nat.lt_irrefl _ (hL _ hm)))];exact h
theorem EtR.ext {w w':World} (h:EtR w) (x:Ext w w'):EtR w':=h.chg x (by simp)
theorem aG8 {w:World} {b o:Nat} {cs:List Value} {t:TypeId} {f:Nat × Nat} {v:Value} (h:At w b (.cells cs.toArray t f)) (hv:cs[o]? =some v):w.cell? ⟨b,o,none⟩=some v:=by
 unfold At at h
 simp [World.cell?,h,hv]
theorem bN0 {w:World} {b:Nat} {cs:Array Value} {t:TypeId} (h:At w b (.cells cs t (0,0))) (hp:0<cs.size):w.frozen? ⟨b,0,none⟩=false:=by
 unfold At at h
 simp [World.frozen?,h]
theorem bJ1 (n:Int) (t:Nat) (old:Value) (w:World) (hg:EtR w) (ht0:w.cell? ⟨t,0,none⟩=some old) (hf0:w.frozen? ⟨t,0,none⟩=false):K.Spec Tryz.prog 102 [.iface 41 (.int .i64 n),.iface 201 (.pointer (some ⟨t,0,none⟩))] w fun r w'=>r=.bool true∧Chg [t] w w'∧w'.cell? ⟨t,0,none⟩=some (.int .i64 n):=
 Calls.mono (bNb n ⟨t,0,none⟩ old w hg ht0 hf0) fun _ _ h=>⟨_,h.1,rfl,h.2⟩
theorem aTc (n:Int) (b1 t:Nat) (old:Value) (w:World) (hg:EtR w) (hc1:w.cell? ⟨b1,1,none⟩=some (.iface 41 (.int .i64 n))) (ht0:w.cell? ⟨t,0,none⟩=some old) (hf0:w.frozen? ⟨t,0,none⟩=false):K.Spec Tryz.prog 102 [.iface 202 (.pointer (some ⟨b1,0,none⟩)),.iface 201 (.pointer (some ⟨t,0,none⟩))] w fun r w'=>r=.bool true∧Chg [t] w w'∧w'.cell? ⟨t,0,none⟩=some (.int .i64 n):=
 Calls.mono (bJg n b1 ⟨t,0,none⟩ old w hg hc1 ht0 hf0) fun _ _ h=>⟨_,h.1,rfl,h.2⟩
theorem bFn (n:Int) (b1 b2 t:Nat) (old:Value) (w:World) (hg:EtR w) (hc1:w.cell? ⟨b1,1,none⟩=some (.iface 202 (.pointer (some ⟨b2,0,none⟩)))) (hc2:w.cell? ⟨b2,1,none⟩=some (.iface 41 (.int .i64 n))) (ht0:w.cell? ⟨t,0,none⟩=some old) (hf0:w.frozen? ⟨t,0,none⟩=false):K.Spec Tryz.prog 102 [.iface 202 (.pointer (some ⟨b1,0,none⟩)),.iface 201 (.pointer (some ⟨t,0,none⟩))] w fun r w'=>r=.bool true∧Chg [t] w w'∧w'.cell? ⟨t,0,none⟩=some (.int .i64 n):=
 Calls.mono (bLa n b1 b2 ⟨t,0,none⟩ old w hg hc1 hc2 ht0 hf0) fun _ _ h=>⟨_,h.1,rfl,h.2⟩
attribute [local irreducible] aH aM aY KOp.wp K.Spec EtR
theorem aM8 {w:World} {v:Value} {c a:Int} (h:dD w 0 v c a) (hc:c≠0):v=qO c:=by
 rcases h with ⟨-,⟨h, -⟩|⟨-,h⟩⟩
 ·exact absurd h hc
 ·exact h
theorem bPy {w:World} {v:Value} {c a:Int} {t:Nat} (hg:EtR w) (h:dD w 2 v c a) (h0:c≠0) (at1:At w t (.cells [Value.int .i64 0].toArray T.api_Errno (0,0))):K.Spec Tryz.prog F.errors_As [v,.iface T.P_api_Errno (.pointer (some ⟨t,0,none⟩))] w fun r w'=>r=.bool true∧Chg [t] w w'∧w'.cell? ⟨t,0,none⟩=some (.int .i64 c):=by
 have hc:=aG8 (o:=0) at1 rfl
 have hf:=bN0 at1 (by simp)
 rcases h with (h1|⟨hc1, -,b1,u1,a1,rfl,hb1,h1⟩)|⟨hc1, -,b1,u1,a1,rfl,hb1,(h1|⟨hc2, -,b2,u2,a2,rfl,hb2,h2⟩)⟩
 ·obtain rfl:=aM8 h1 h0
  exact bJ1 c t _ w hg hc hf
 ·obtain rfl:=aM8 h1 h0
  exact aTc c b1 t _ w hg (aG8 hb1 rfl) hc hf
 ·obtain rfl:=aM8 h1 h0
  exact aTc c b1 t _ w hg (aG8 hb1 rfl) hc hf
 ·obtain rfl:=aM8 h2 h0
  exact bFn c b1 b2 t _ w hg (aG8 hb1 rfl) (aG8 hb2 rfl) hc hf
theorem bIb {w:World} {v:Value} {c a:Int} (hg:EtR w) (h:dD w 2 v c a):K.Spec Tryz.prog F.api_Code [v] w fun r w'=>r=.int .i64 c∧Ext w w':=by
 obtain ⟨n1,n2⟩:=h.nil_iff
 by_cases h0:c=0
 ·obtain ⟨rfl, -⟩:=n1 h0
  subst h0
  refine aO2 rfl ?_
  unfold aFg
  refine oy ?_
  repeat (first|refine zH (d:=some 3) (fun b3 w1 x1 a3 hb3=>?_)|(first|refine go2 ?_|fail))
  exact aA rfl ⟨rfl,x1⟩
 ·obtain ⟨et,eu,rfl⟩:=n2 h0
  refine aO2 rfl ?_
  unfold aFg
  refine oy ?_
  repeat (first|refine zH (d:=some 3) (fun b3 w1 x1 a3 hb3=>?_)|(first|refine go2 ?_|fail))
  refine zC (d:=some 9) rfl (bPy (hg.ext x1) (dD.ext x1 h) h0 a3) ?_
  rintro _ w2 ⟨rfl,c2,e2⟩
  repeat (first|refine aHt (d:=some 11) rfl e2 ?_|(first|refine go2 ?_|fail))
  exact aA rfl ⟨rfl,(Ext.chg x1 c2).mono (fun y hy=>.inr (by simp at hy;omega))⟩
end
end Go.Proofs.YteceapipdhnhdaaGreatDoor
