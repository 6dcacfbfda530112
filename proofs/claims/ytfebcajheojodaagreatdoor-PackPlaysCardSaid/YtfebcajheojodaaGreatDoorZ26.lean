/- Contracts: may an input open a lock, and is it ripe? Contrac -/
import Derived.Test.YtfebcajheojodaaGreatDoorZ25
set_option linter.unusedVariables false
set_option linter.unusedSimpArgs false
namespace Go.Proofs.YtfebcajheojodaaGreatDoor
section
open Go Go.K
attribute [local irreducible] aO aU bQ KOp.wp K.Spec u32 leS vnS str aV cB bS cS gG kT cW
theorem bOn {q:Int} (h:dV q):cC .and (.int .u32 q) (.int .u32 65535)=some (.int .u32 (q%65536)):=by
 obtain ⟨n,rfl⟩:∃n:Nat,q=(n:Nat):=⟨q.toNat,by have:=h.1;omega⟩
 have h2:n<4294967296:=by have:=h.2;omega
 simp only [cC,dX,Bool.false_eq_true,if_false,if_true,dL,IntKind.bits]
 have e:(BitVec.ofInt 32 ((n:Nat):Int)&&& BitVec.ofInt 32 65535).toNat=n%65536:=by
  rw [BitVec.toNat_and,BitVec.toNat_ofInt,BitVec.toNat_ofInt]
  rw [show (((n:Nat):Int)%((2^32:Nat):Int)).toNat=n by omega,show ((65535:Int)%((2^32:Nat):Int)).toNat=2^16 - 1 by decide]
  exact Nat.and_two_pow_sub_one_eq_mod n 16
 exact (congrArg (fun x:Nat=>some (Value.int .u32 (IntKind.u32.wrap (x:Int)))) e).trans (congrArg (fun x=>some (Value.int .u32 x)) (by rw [aPl (by omega)];rfl))
theorem vC {t:Tx} {x:TIn} (h:dV x.q):0≤gI t x∧gI t x<65536:=by
 unfold gI
 split<;>omega
theorem aO5 {M:List Nat} {cs:List Value} {t:Tx} (i:Nat) (hi:i<t.ins.length) (hs:t.ins.length≤1000) (w:World) (ht:txR.rel M w cs t):K.Spec Tryz.prog F.lock_waits [.agg cs.toArray,.int .i64 (i:Nat)] w fun r w'=>r=.int .i64 (gI t t.ins[i])∧Ext w w':=by
 obtain ⟨iv,ov,rfl,h1,h2,h3,h4⟩:=ht
 refine aTt rfl ?_
 unfold aHy
 refine oy ?_
 repeat' (first|refine zD rfl rfl (fun bp wp xp ap (rp:Row wp ⟨bp,0,none⟩ (aK t iv ov)) hp0=>?_)|(refine aL (d:=some 9) (E:=inR) (M:=M) rfl rfl (n:=i) (l:=t.ins) (SlR.ext h1 (by exact fx)) rfl hi (fun ad cs r4 he=>?_);obtain ⟨wv,rfl,hw,hp5,hp6⟩:=he)|refine zJ (p:=t.ins[i].q<2147483648) rfl (fun h=>?_) (fun h=>?_)|refine zL (p:=t.ver≥2) rfl (fun h=>?_) (fun h=>?_)|refine dS (d:=some 20) rfl rfl (bOn hp6) ?_|refine aJ (d:=some 21) (.int .i64 (t.ins[i].q%65536)) rfl (congrArg (fun n=>some (Value.int .i64 n)) (IntWalk.i64_in _ (by omega))) ?_|refine go1 ?_|refine zg λ_ _=>?_|refine zi λ_ _=>?_)
 ·exact aC rfl ⟨by rw [gI,if_pos ⟨‹t.ins[i].q<2147483648›,‹t.ver≥2›⟩];rfl,by exact fx⟩
 ·exact aC rfl ⟨by rw [gI,if_neg (fun hh=>‹¬t.ver≥2› hh.2)];rfl,by exact fx⟩
 ·exact aC rfl ⟨by rw [gI,if_neg (fun hh=>‹¬t.ins[i].q<2147483648› hh.1)];rfl,by exact fx⟩
theorem aJz {M:List Nat} {cs:List Value} {t:Tx} (i:Nat) (hi:i<t.ins.length) (w:World) (ht:txR.rel M w cs t):K.Spec Tryz.prog F.lock_is [.agg cs.toArray,.int .i64 (i:Nat)] w fun r w'=>r=.bool true∧Ext w w':=by
 obtain ⟨iv,ov,rfl,h1,h2,h3,h4⟩:=ht
 refine bGp rfl ?_
 unfold aS3
 refine oy ?_
 repeat' (first|refine zD rfl rfl (fun bp wp xp ap (rp:Row wp ⟨bp,0,none⟩ (aK t iv ov)) hp0=>?_)|refine zG (d:=some 11) (E:=inR) (M:=M) (l:=t.ins) rfl (SlR.ext h1 (by exact fx)) ?_|refine aJ (d:=some 6) (.bool true) rfl (congrArg (fun b=>some (Value.bool b)) (dTr (by omega))) ?_|refine aJ (d:=some 12) (.bool true) rfl (congrArg (fun b=>some (Value.bool b)) (dTr (by omega))) ?_|refine go1 ?_|refine zg λ_ _=>?_|refine zi λ_ _=>?_)
 exact aC rfl ⟨rfl,by exact fx⟩
set_option maxHeartbeats 2000000 in
theorem bEd {M:List Nat} {cs:List Value} {t:Tx} (s:ByteArray) (hm:s.size≤1000000) (i:Nat) (hi:i<t.ins.length) (hs:t.ins.length≤1000) (hz:∀z∈t.ins[i].wit,z.size≤1000000) (w:World) (ht:txR.rel M w cs t):K.Spec Tryz.prog F.lock_Open [.string s,.agg cs.toArray,.int .i64 (i:Nat)] w fun r w'=>r=.int .i64 (gL s t t.ins[i])∧Ext w w':=by
 have ht0:=ht
 obtain ⟨iv,ov,rfl,h1,h2,h3,h4⟩:=ht
 refine aZq rfl ?_
 unfold aMc
 refine oy ?_
 repeat (first|refine zD rfl rfl (fun bp wp xp ap (rp:Row wp ⟨bp,0,none⟩ (aK t iv ov)) hp0=>?_)|(refine zC (d:=some 11) rfl (aJz (M:=M) (t:=t) (cs:=aK t iv ov) i hi _ (R.ext ht0 (by exact fx))) ?_;rintro _ w2 ⟨rfl,x2⟩)|(refine aL (d:=some 18) (E:=inR) (M:=M) rfl rfl (n:=i) (l:=t.ins) (SlR.ext h1 (by exact fx)) rfl hi (fun ad cs r4 he=>?_);obtain ⟨wv,rfl,hw,hp5,hp6⟩:=he)|(refine zC (d:=some 21) rfl (aYm s hm _ (SlR.toE (F:=bO) (ag:=false) (SlR.ext hw (by exact fx))) hz) ?_;rintro _ w5 ⟨b,rfl,hb,hcb,x5⟩)|refine zE (d':=7) (fun _=>rfl) rfl rfl rfl (fun b7 w7 x7 a7 (r7:Row w7 ⟨b7,0,none⟩ [.int .u16 (b.tag:Nat),.int .u16 (b.delay:Nat),.int .u32 (b.height:Nat)]) hb7=>?_)|refine go1 ?_|refine zg λ_ _=>?_|refine zi λ_ _=>?_)
 have hwb:=vC (t:=t) hp6
 have hd:=hb.delay
 have hh9:=hb.height
 have xw7:Unit→Ext w w7:=fun _=>by exact fx
 have h17:=h1.ext (xw7 ())
 have ht7:=R.ext ht0 (xw7 ())
 have rp7:Row w7 ⟨bp,0,none⟩ (aK t iv ov):=rp.ext (by exact fx)
 clear xp x2 x5 x7 hw h1 rp r4
 cases hc:cW s t.ins[i].wit with
 |none=>
  have e:gL s t t.ins[i]=9:=by unfold gL;rw [hc]
  rw [e]
  repeat' (first|refine go1 ?_|refine zg λ_ _=>?_|refine zi λ_ _=>?_)
  exact aC rfl ⟨rfl,xw7 ()⟩
 |some c=>
  obtain rfl:=hcb c hc
  have e:gL s t t.ins[i]=if gI t t.ins[i]<(b.delay:Int) then 10 else if b.height>0∧(t.lock<(b.height:Int)∨t.ins[i].q=4294967295) then 10 else 0:=by unfold gL;rw [hc]
  repeat' (first|refine aI5 (x:=.tmp 24) rfl ?_|refine zg (fun w8 x8=>?_)|refine fR ?_ ?_|(refine zC (d:=some 30) rfl (aO5 (M:=M) (t:=t) (cs:=aK t iv ov) i hi hs _ (R.ext ht7 (by exact fx))) ?_;rintro _ w9 ⟨rfl,x9⟩)|refine aJ (d:=some 33) (.int .i64 (b.delay:Nat)) rfl (congrArg (fun n=>some (Value.int .i64 n)) (IntWalk.i64_in _ (by omega))) ?_|refine zL (p:=gI t t.ins[i]<(b.delay:Int)) rfl (fun h=>?_) (fun h=>?_)|refine zJ (t:=39) (p:=((b.height:Nat):Int)>0) rfl (fun h=>?_) (fun h=>?_)|refine zJ (t:=45) (p:=t.lock<((b.height:Nat):Int)) rfl (fun h=>?_) (fun h=>?_)|(refine aL (d:=some 49) (E:=inR) (M:=M) rfl rfl (n:=i) (l:=t.ins) (SlR.ext h17 (by exact fx)) rfl hi (fun ad cs r4 he=>?_);obtain ⟨wv,rfl, -, -, -⟩:=he)|refine zL (p:=t.ins[i].q=4294967295) rfl (fun h=>?_) (fun h=>?_)|refine go1 ?_|refine zg λ_ _=>?_|refine zi λ_ _=>?_)
  all_goals
   rw [e]
   first
    |(rw [if_pos (by assumption)];exact aC rfl ⟨rfl,Ext.trans (xw7 ()) (by exact fx)⟩)
    |(rw [if_neg (by assumption),if_pos ⟨by omega,.inl (by assumption)⟩];exact aC rfl ⟨rfl,Ext.trans (xw7 ()) (by exact fx)⟩)
    |(rw [if_neg (by assumption),if_pos ⟨by omega,.inr (by assumption)⟩];exact aC rfl ⟨rfl,Ext.trans (xw7 ()) (by exact fx)⟩)
    |(rw [if_neg (by assumption),if_neg (fun hh=>by omega)];exact aC rfl ⟨rfl,Ext.trans (xw7 ()) (by exact fx)⟩)
    |trace_state
theorem qJ (n:Int) (w:World):K.Spec Tryz.prog F.lock_height [.int .i64 n] w fun r w'=>r=.bool (kQ n)∧Ext w w':=by
 refine aQ4 rfl ?_
 unfold aE8
 refine oy ?_
 repeat' (first|refine zJ (p:=n≥0) rfl (fun h=>?_) (fun h=>?_)|refine go1 ?_|refine zg λ_ _=>?_|refine zi λ_ _=>?_)
 ·exact aC rfl ⟨congrArg Value.bool (by unfold kQ;simp;omega),Ext.refl _⟩
 ·exact aC rfl ⟨congrArg Value.bool (by unfold kQ;symm;exact dFa (by omega)),Ext.refl _⟩
theorem bIu:cM Tryz.prog F.lock_Ripe_1=true:=by kernel_rfl
theorem bAw (x:TIn) (wv:Value) (w:World) (hw:wv.oneCell'=true):K.Spec Tryz.prog F.lock_Ripe_1 [.agg (gO x wv).toArray] w fun r w'=>r=.bool (!decide (x.q=4294967295))∧Ext w w':=by
 refine aRb rfl ?_
 unfold aFe
 refine oy ?_
 repeat' (first|refine go1 ?_|refine zg λ_ _=>?_|refine zi λ_ _=>?_|refine zD rfl rfl (fun bp wp xp ap (rp:Row wp ⟨bp,0,none⟩ (gO x wv)) hp0=>?_))
 exact aC rfl ⟨rfl,by exact fx⟩
set_option maxHeartbeats 2000000 in
theorem bDp {M:List Nat} {cs:List Value} {t:Tx} (i:Nat) (hi:i<t.ins.length) (hs:t.ins.length≤1000) (c bl:Int) (w:World) (ht:txR.rel M w cs t):K.Spec Tryz.prog F.lock_Ripe [.agg cs.toArray,.int .i64 (i:Nat),.int .i64 c,.int .i64 bl] w fun r w'=>r=.bool (gN t t.ins[i] c bl)∧Ext w w':=by
 have ht0:=ht
 obtain ⟨iv,ov,rfl,h1,h2,h3,h4⟩:=ht
 have hq:dV t.ins[i].q:=by
  obtain ⟨css,hsl,hall,_⟩:=h1
  obtain ⟨_,_,_,_,hq⟩:=All2.get hall i (by rw [hall.length];exact hi) hi
  exact hq
 have hwb:=vC (t:=t) hq
 have h42:=h4.2
 have h41:=h4.1
 have tl:∀w1,Ext w w1→rF F.lock_Ripe_1 [] inR (fun cs=>.agg cs.toArray) M w1 t.ins (fun x=>!decide (x.q=4294967295)):=fun w1 x1 y hy w' cs x2 hc=>by
  obtain ⟨wv,rfl,hw,_⟩:=hc
  exact bAw y wv w' hw.one
 have hany:(!t.ins.any fun x=>!decide (x.q=4294967295))=t.ins.all fun x=>decide (x.q=4294967295):=by
  rw [List.all_eq_not_any_not]
 have fail1:kQ c=false→gN t t.ins[i] c bl=false:=fun e=>by unfold gN;rw [e];rfl
 have fail2:kQ bl=false→gN t t.ins[i] c bl=false:=fun e=>by unfold gN;rw [e];simp
 have fail3:¬c+gI t t.ins[i]≤bl→gN t t.ins[i] c bl=false:=fun e=>by unfold gN;rw [dFa e];simp
 have good:kQ c=true→kQ bl=true→c+gI t t.ins[i]≤bl→gN t t.ins[i] c bl=(decide (t.lock<bl)||t.ins.all fun y=>decide (y.q=4294967295)):=fun e1 e2 e3=>by unfold gN;rw [e1,e2,dTr e3];rfl
 cases hc:kQ c with
 |false=>
  rw [fail1 hc]
  refine aCs rfl ?_
  unfold vW
  refine oy ?_
  repeat' (first|refine zD rfl rfl (fun bp wp xp ap (rp:Row wp ⟨bp,0,none⟩ (aK t iv ov)) hp0=>?_)|(refine zC (d:=some 11) rfl (aJz (M:=M) (t:=t) (cs:=aK t iv ov) i hi _ (R.ext ht0 (by exact fx))) ?_;rintro _ w2 ⟨rfl,x2⟩)|(refine zC (d:=some 15) rfl (qJ c _) ?_;rintro _ w3 ⟨rfl,x3⟩;rw [hc])|refine go1 ?_|refine zg λ_ _=>?_|refine zi λ_ _=>?_)
  exact aC rfl ⟨rfl,by exact fx⟩
 |true=>
  have hc2:0≤c∧c≤1000000:=of_decide_eq_true hc
  cases hh:kQ bl with
  |false=>
   rw [fail2 hh]
   refine aCs rfl ?_
   unfold vW
   refine oy ?_
   repeat' (first|refine zD rfl rfl (fun bp wp xp ap (rp:Row wp ⟨bp,0,none⟩ (aK t iv ov)) hp0=>?_)|(refine zC (d:=some 11) rfl (aJz (M:=M) (t:=t) (cs:=aK t iv ov) i hi _ (R.ext ht0 (by exact fx))) ?_;rintro _ w2 ⟨rfl,x2⟩)|(refine zC (d:=some 15) rfl (qJ c _) ?_;rintro _ w3 ⟨rfl,x3⟩;rw [hc])|(refine zC (d:=some 20) rfl (qJ bl _) ?_;rintro _ w4 ⟨rfl,x4⟩;rw [hh])|refine go1 ?_|refine zg λ_ _=>?_|refine zi λ_ _=>?_)
   exact aC rfl ⟨rfl,by exact fx⟩
  |true=>
   have hh2:0≤bl∧bl≤1000000:=of_decide_eq_true hh
   refine aCs rfl ?_
   unfold vW
   refine oy ?_
   repeat' (first|refine zD rfl rfl (fun bp wp xp ap (rp:Row wp ⟨bp,0,none⟩ (aK t iv ov)) hp0=>?_)|(refine zC (d:=some 11) rfl (aJz (M:=M) (t:=t) (cs:=aK t iv ov) i hi _ (R.ext ht0 (by exact fx))) ?_;rintro _ w2 ⟨rfl,x2⟩)|(refine zC (d:=some 15) rfl (qJ c _) ?_;rintro _ w3 ⟨rfl,x3⟩;rw [hc])|(refine zC (d:=some 20) rfl (qJ bl _) ?_;rintro _ w4 ⟨rfl,x4⟩;rw [hh])|(refine zC (d:=some 28) rfl (aO5 (M:=M) (t:=t) (cs:=aK t iv ov) i hi hs _ (R.ext ht0 (by exact fx))) ?_;rintro _ w5 ⟨rfl,x5⟩)|refine zL (p:=bl<c+gI t t.ins[i]) rfl (fun h=>?_) (fun h=>?_)|refine aJ (d:=some 34) (.int .i64 t.lock) rfl (congrArg (fun n=>some (Value.int .i64 n)) (IntWalk.i64_in _ (by omega))) ?_|refine zJ (t:=37) (p:=t.lock<bl) rfl (fun h=>?_) (fun h=>?_)|(refine zC (d:=some 40) rfl (pQ (l:=t.ins) (M:=M) (g:=F.lock_Ripe_1) (capl:= []) (p:=fun x=>!decide (x.q=4294967295)) _ bIu (SlR.ext h1 (by exact fx)) (by omega) (tl _ (by exact fx))) ?_;rintro _ w6 ⟨rfl,x6⟩)|refine go1 ?_|refine zg λ_ _=>?_|refine zi λ_ _=>?_)
   ·rw [fail3 (by omega)]
    exact aC rfl ⟨rfl,by exact fx⟩
   ·rw [good hc hh (by omega),dTr (by assumption)]
    exact aC rfl ⟨rfl,by exact fx⟩
   ·rw [good hc hh (by omega),dFa (by assumption)]
    exact aC rfl ⟨congrArg Value.bool hany,by exact fx⟩
end
section
open Go Go.K
attribute [local irreducible] aO aU bQ KOp.wp K.Spec u32 leS vnS str aV cB bS cS gG kT cW gL gN aG aX cD idT aR
theorem aWj {t:Tx} (hc:aG t=0) {i:Nat} (hi:i<t.ins.length):∀z∈t.ins[i].wit,z.size≤1000000:=fun z hz=>by
 have:=(bI (fE hc) hc).item _ (gMe hi) z hz
 omega
section
variable {d:Option Tmp} {r:KR} {K:Env→World→Prop} {ρ:Env} {w w0:World} {v:Value} {f:Pt→Option Cn}
theorem bL8 {x:Operand} {args:List Operand} (hV:lE w0 v f) (xx:Ext w0 w) (p:Pt) (hp:dV p.i) (hx:ev ρ x=v) (ha:args.map (ev ρ)= [.agg p.cs.toArray])
  (k:∀c w',(f p).getD cn0=c→Ext w w'→aO Tryz.prog r K (put ρ d (.tuple #[.agg c.cs.toArray,.bool (f p).isSome])) w'):aO Tryz.prog (.cons ⟨d,.invoke x "Get" args,none⟩ r) K ρ w:=by
 obtain ⟨⟨t,u,rfl,hv⟩,_⟩:=hV
 obtain ⟨fn,rv,_,hm,hb,hS⟩:=hv p hp w xx
 exact aSw hx hm hb (by rw [ha]) hS fun _ w' ⟨c,e,hc,x⟩=>by subst e;exact k c w' hc x
theorem lE.mo_get {t:TypeId} {u:Value} (hV:lE w0 (.iface t u) f) {p:Pt} (hp:dV p.i):mo t u "Get" =true:=by
 obtain ⟨⟨t',u',e,hv⟩,_⟩:=hV
 cases e
 obtain ⟨_,_,h,_⟩:=hv p hp w0 (Ext.refl w0)
 exact bOq h
theorem bLx {M:List Nat} {iv:Value} {l:List TIn} (h:SlR inR M w iv l) {i:Nat} (hi:i<l.length):dV l[i].p.i:=by
 obtain ⟨css,hsl,hall,_⟩:=h
 obtain ⟨_,_,_,hq,_⟩:=All2.get hall i (by rw [hall.length];exact hi) hi
 exact hq
end
set_option maxHeartbeats 1000000 in
theorem aOh {M:List Nat} {cs:List Value} {t:Tx} {v:Value} {f:Pt→Option Cn} (i:Nat) (hi:i<t.ins.length) (hc:aG t=0) (h:Int) (w:World) (hV:lE w v f) (ht:txR.rel M w cs t):K.Spec Tryz.prog F.check_spent [v,.agg cs.toArray,.int .i64 (i:Nat),.int .i64 h] w fun r w'=>
  ∃c:Cn,r=.tuple #[.agg c.cs.toArray,.int .i64 (inE f t h t.ins[i])]∧c=(f t.ins[i].p).getD cn0∧Ext w w':=by
 have hs:=fE hc
 have hn:=hs.ins
 have hwz:=aWj hc hi
 have ht0:=ht
 obtain ⟨iv,ov,rfl,h1,h2,h3,h4⟩:=ht
 have hp5:=bLx h1 hi
 have hz:=hV.2
 obtain ⟨vt,vu,rfl⟩:∃vt vu,v=.iface vt vu:=by obtain ⟨⟨a,b,e,_⟩,_⟩:=hV;exact ⟨a,b,e⟩
 have hmo:=hV.mo_get hp5
 refine aQz rfl ?_
 unfold aFg
 refine oy ?_
 repeat' (first|refine zD rfl rfl (fun bp wp xp ap (rp:Row wp ⟨bp,0,none⟩ (aK t iv ov)) hp0=>?_)|(refine zH (d:=some 8) (fun b8 w8 x8 a8 hb8=>?_);have h08:w.heap.size≤b8:=nTr xp.size hb8)|(refine aL (d:=some 18) (E:=inR) (M:=M) rfl rfl (n:=i) (l:=t.ins) (SlR.ext h1 (by exact fx)) rfl hi (fun ad cs r4 he=>?_);obtain ⟨wv,rfl, -, -, -⟩:=he)|refine bL6 (d:=some 22) rfl hmo ?_|refine fR ?_ ?_|refine bL8 (d:=some 24) hV (by exact fx) t.ins[i].p hp5 rfl rfl (fun c w6 hcc x6=>?_)|(refine zH (d:=some 10) (fun b10 w10 x10 a10 hb10=>?_);have h10:w8.heap.size≤b10:=nTr (Ext.size (w:=w8) (by exact fx)) hb10)|refine go1 ?_|refine zg λ_ _=>?_|refine zi λ_ _=>?_)
 all_goals
  have l8:=a8.lt
  have s08:w.heap.size≤w8.heap.size:=Ext.size (w:=w) (by exact fx)
  refine bP (w0:=w) (vs:=c.cs) (by exact fx) (nTr s08 h10) (by focus (repeat (first|assumption|(apply At.ext;assumption)))) rfl rfl rfl rfl rfl (fun w7 x7 c7 a7 r7=>?_)
  have a7':At w7 b8 _:=At.chg c7 (At.ext (w:=w8) (by exact fx) a8) (by simp;omega)
  have rp7:Row w7 ⟨bp,0,none⟩ (aK t iv ov):=Row.chg c7 (Row.ext (w:=wp) (by exact fx) rp) (by have:=ap.lt;have:=x8.size;simp;omega)
  have ht7:=R.ext ht0 x7
  clear c7 a8 rp x8 xp x6 x10
  cases hf:f t.ins[i].p with
  |none=>
   have e:inE f t h t.ins[i]=8:=by unfold inE;rw [hf]
   rw [e]
   rw [hf] at hcc
   repeat' (first|refine bP (w0:=w) (vs:=c.cs) (by exact fx) h08 (by focus (repeat (first|assumption|(apply At.ext;assumption)))) rfl rfl rfl rfl rfl (fun w9 x9 c9 a9 r9=>?_)|refine go1 ?_|refine zg λ_ _=>?_|refine zi λ_ _=>?_)
   exact aC (lQ (cL r9 rfl rfl) cX) ⟨c,rfl,hcc.symm,x9⟩
  |some d=>
   have ec:d=c:=by rw [hf] at hcc;exact hcc
   subst ec
   have e:inE f t h t.ins[i]=if gL d.s t t.ins[i]≠0 then gL d.s t t.ins[i] else if gN t t.ins[i] d.h h then 0 else 10:=by unfold inE;rw [hf]
   rw [e]
   repeat' (first|refine aI5 (x:=.tmp 28) rfl ?_|(refine zC (d:=some 35) rfl (bEd (M:=M) (t:=t) (cs:=aK t iv ov) d.s (hz _ _ hf) i hi hn hwz _ (R.ext ht7 (by exact fx))) ?_;rintro _ w2 ⟨rfl,x2⟩)|refine zN (p:=gL d.s t t.ins[i]=0) rfl (fun ho=>?_) (fun ho=>?_)|(refine zC (d:=some 45) rfl (bDp (M:=M) (t:=t) (cs:=aK t iv ov) i hi hn d.h h _ (R.ext ht7 (by exact fx))) ?_;rintro _ w3 ⟨rfl,x3⟩)|refine zW (x:=.tmp 46) rfl (fun hr=>?_) (fun hr=>?_)|refine bP (w0:=w) (vs:=d.cs) (by exact fx) h08 (by focus (repeat (first|assumption|(apply At.ext;assumption)))) rfl rfl rfl rfl rfl (fun w9 x9 c9 a9 r9=>?_)|refine go1 ?_|refine zg λ_ _=>?_|refine zi λ_ _=>?_)
   ·rw [if_pos (by assumption)]
    exact aC (lQ (cL r9 rfl rfl) cX) ⟨d,rfl,rfl,x9⟩
   ·rw [if_neg (by simpa using ‹gL d.s t t.ins[i]=0›),if_neg (by simpa using ‹(!gN t t.ins[i] d.h h)=true›)]
    exact aC (lQ (cL r9 rfl rfl) cX) ⟨d,rfl,rfl,x9⟩
   ·rw [if_neg (by simpa using ‹gL d.s t t.ins[i]=0›),if_pos (by simpa using ‹(!gN t t.ins[i] d.h h)=false›)]
    exact aC (lQ (cL r9 rfl rfl) cX) ⟨d,rfl,rfl,x9⟩
theorem aCa {M:List Nat} {cs:List Value} {t:Tx} {vt:TypeId} {vu:Value} (w:World) (ht:txR.rel M w cs t) (hs:t.Sm):K.Spec Tryz.prog F.check_formed [.iface vt vu,.agg cs.toArray] w fun r w'=>r=.int .i64 (if aG t≠0 then aG t else if aX t then 4 else 0)∧Ext w w':=by
 have ht0:=ht
 obtain ⟨iv,ov,rfl,h1,h2,h3,h4⟩:=ht
 refine aPo rfl ?_
 unfold aCu
 refine oy ?_
 repeat' (first|refine zD rfl rfl (fun bp wp xp ap (rp:Row wp ⟨bp,0,none⟩ (aK t iv ov)) hp0=>?_)|(refine zC (d:=some 9) rfl (aC7 (M:=M) (t:=t) (cs:=aK t iv ov) _ (R.ext ht0 (by exact fx)) hs) ?_;rintro _ w2 ⟨rfl,x2⟩)|refine zN (p:=aG t=0) rfl (fun h=>?_) (fun h=>?_)|(refine zC (d:=some 14) rfl (aP7 (M:=M) (t:=t) (cs:=aK t iv ov) _ (R.ext ht0 (by exact fx)) hs) ?_;rintro _ w3 ⟨rfl,x3⟩)|refine aI5 (x:=.tmp 7) rfl ?_|refine zM (x:=.tmp 14) rfl (fun h=>?_) (fun h=>?_)|refine go1 ?_|refine zg λ_ _=>?_|refine zi λ_ _=>?_)
 ·exact aC rfl ⟨by rw [if_pos (show aG t≠0 from h)];rfl,by exact fx⟩
 ·exact aC rfl ⟨by rw [if_neg (show ¬aG t≠0 from fun q=>q ‹aG t=0›),if_pos ‹aX t=true›];rfl,by exact fx⟩
 ·exact aC rfl ⟨by rw [if_neg (show ¬aG t≠0 from fun q=>q ‹aG t=0›),if_neg (show ¬aX t=true by rw [‹aX t=false›];simp)];rfl,by exact fx⟩
theorem bEx (w:World):K.Spec Tryz.prog F.check_told [.int .i64 0] w fun r w'=>r=.nilIface∧Ext w w':=by
 refine aT0 rfl ?_
 unfold aI3
 refine oy ?_
 repeat' (first|refine go1 ?_|refine zg λ_ _=>?_|refine zi λ_ _=>?_)
 exact aC rfl ⟨rfl,Ext.refl _⟩
end
section
open Go Go.K
attribute [local irreducible] aO aU bQ KOp.wp K.Spec u32 leS vnS str aV cB bS cS gG kT cW gL gN aG aX cD idT aR inE
section
variable {f:Pt→Option Cn} {t:Tx} {h:Int}
theorem bC0 (hc:aG t≠0):eY f t h=(0,aG t, -1):=by unfold eY;rw [if_pos hc]
theorem aEg (hc:aG t=0) (hg:aX t=true):eY f t h=(0,4, -1):=by unfold eY;rw [if_neg (by simpa using hc),if_pos hg]
theorem aVe (hc:aG t=0) (hg:aX t=false) {i:Nat} (hi:i<t.ins.length) (hk:∀j,j<i→∀hj:j<t.ins.length,inE f t h t.ins[j]=0) (he:inE f t h t.ins[i]≠0):eY f t h=(0,inE f t h t.ins[i],((i:Nat):Int)):=by
 unfold eY
 have e:(t.ins.findIdx? fun x=>decide (inE f t h x≠0))=some i:=List.findIdx?_eq_some_iff_getElem.2 ⟨hi,dTr he,fun j hj=>by rw [hk j hj (by omega)];simp⟩
 rw [if_neg (by simpa using hc),if_neg (by rw [hg];simp),e]
 simp only
 rw [List.getD_eq_getElem?_getD,List.getElem?_eq_getElem hi];rfl
theorem aNn (hc:aG t=0) (hg:aX t=false) (hk:∀j,∀hj:j<t.ins.length,inE f t h t.ins[j]=0):
  eY f t h=if kB (t.ins.map (inV f))≠0 then (0,kB (t.ins.map (inV f)), -1) else if fX (values t)>fX (t.ins.map (inV f)) then (0,12, -1) else (fX (t.ins.map (inV f)) - fX (values t),0, -1):=by
 unfold eY
 have e:(t.ins.findIdx? fun x=>decide (inE f t h x≠0))=none:=List.findIdx?_eq_none_iff.2 fun x hx=>by
  obtain ⟨j,hj,rfl⟩:=List.getElem_of_mem hx
  rw [hk j hj];simp
 rw [if_neg (by simpa using hc),if_neg (by rw [hg];simp),e]
end
theorem sG {l:List Int} (h:kB l=0):bX (fX l)=true:=by
 unfold kB at h
 unfold fX
 cases hs:jP 0 l with
 |none=>rw [hs] at h;cases h
 |some s=>exact zS l 0 s (by decide) hs
theorem pM {t:Tx} (h:aG t=0):kB (values t)=0:=by
 unfold aG at h
 repeat' split at h
 all_goals first|exact h|cases h
set_option maxHeartbeats 2000000 in
theorem bIy {M:List Nat} {cs:List Value} {t:Tx} {v:Value} {f:Pt→Option Cn} (bl:Int) (w:World) (hV:lE w v f) (ht:txR.rel M w cs t) (hs:t.Sm):K.Spec Tryz.prog F.check_Fee [v,.agg cs.toArray,.int .i64 bl] w fun r w'=>
  ∃e,r=.tuple #[.int .i64 (eY f t bl).1,e]∧eJ w' 1 e (eY f t bl).2.1 (eY f t bl).2.2∧Ext w w':=by
 have hn:=hs.ins
 have ht0:=ht
 obtain ⟨iv,ov,rfl,h1,h2,h3,h4⟩:=ht
 have hV0:=hV
 obtain ⟨⟨vt,vu,rfl,_⟩,_⟩:=hV
 refine aWq rfl ?_
 unfold aMv
 refine oy ?_
 by_cases hc:aG t=0
 ·cases hg:aX t with
  |true=>
   rw [aEg hc hg]
   repeat' (first|refine zD rfl rfl (fun bp wp xp ap (rp:Row wp ⟨bp,0,none⟩ (aK t iv ov)) hp0=>?_)|(refine zC (d:=some 20) rfl (aCa (M:=M) (t:=t) (cs:=aK t iv ov) _ (R.ext ht0 (by exact fx)) hs) ?_;rintro _ w2 ⟨rfl,x2⟩;rw [if_neg (by simpa using hc),if_pos hg])|refine go1 ?_|refine zg λ_ _=>?_|refine zi λ_ _=>?_)
   exact aC rfl ⟨_,rfl,eJ.num _ _ (by decide),by exact fx⟩
  |false=>
   repeat' (first|refine zD rfl rfl (fun bp wp xp ap (rp:Row wp ⟨bp,0,none⟩ (aK t iv ov)) hp0=>?_)|(refine zC (d:=some 20) rfl (aCa (M:=M) (t:=t) (cs:=aK t iv ov) _ (R.ext ht0 (by exact fx)) hs) ?_;rintro _ w2 ⟨rfl,x2⟩;rw [if_neg (by simpa using hc),if_neg (by rw [hg];simp)])|refine zG (d:=some 27) (E:=inR) (M:=M) (l:=t.ins) rfl (SlR.ext h1 (by exact fx)) ?_|(refine aQ (fun (p:Nat × Value) w'=>Ext w2 w'∧p.1≤t.ins.length∧Own aJf T.int w2.heap.size w' p.2 ((t.ins.take p.1).map (inV f))∧∀j,j<p.1→∀hj:j<t.ins.length,inE f t bl t.ins[j]=0) (fun p=> [(0,.iface vt vu),(2,.int .i64 bl),(4,.pointer (some ⟨bp,0,none⟩)),(9,p.2),(27,.int .i64 (t.ins.length:Nat)),(28,.int .i64 (p.1:Nat))]) (fun p=>t.ins.length - p.1) (0,.slice none 0 0) ⟨rfl,rfl,rfl,rfl,rfl,rfl,trivial⟩ ⟨Ext.refl _,by simp,Own.nil _ _ _,fun j hj=>absurd hj (by simp)⟩ ?_;rintro ⟨i,v9⟩ ρ w3 ⟨x3,hi,ho,hk⟩;simp only at hi ho hk;dsimp only)|refine zL (p:=((i:Nat):Int)<((t.ins.length:Nat):Int)) rfl (fun h=>?_) (fun h=>?_)|refine go1 ?_|refine zg λ_ _=>?_|refine zi λ_ _=>?_)
   ·have hil:i<t.ins.length:=by omega
    have s2:wp.heap.size≤w2.heap.size:=x2.size
    have rp3:Row w3 ⟨bp,0,none⟩ (aK t iv ov):=rp.ext (by exact fx)
    have ht3:=R.ext ht0 (show Ext w w3 by exact fx)
    have hV3:=hV0.ext (show Ext w w3 by exact fx)
    by_cases he:inE f t bl t.ins[i]=0
    ·repeat' (first|(refine zC (d:=some 36) rfl (aOh (M:=M) (t:=t) (cs:=aK t iv ov) i hil hc bl _ (hV3.ext (by exact fx)) (R.ext ht3 (by exact fx))) ?_;rintro _ w4 ⟨c,rfl,hcc,x4⟩;rw [he])|refine zE (d':=11) (fun _=>rfl) rfl rfl rfl (fun b7 w7 x7 a7 (r7:Row w7 ⟨b7,0,none⟩ c.cs) hb7=>?_)|refine zI (d:=some 51) (cs:= [.int .i64 c.v]) rfl (fun b8 w8 x8 a8 hb8=>?_)|refine cK (d:=some 52) (E:=aJf) (v:=v9) (l2:= [c.v]) rfl (ho.ext (by exact fx)) (Ext.size (w:=w2) (by exact fx)) rfl rfl (eS a8 rfl) rfl rfl (by simp;omega) (fun v10 w10 o10 c10=>?_)|refine go1 ?_|refine zg λ_ _=>?_|refine zi λ_ _=>?_)
     exact ⟨(i+1,v10),⟨rfl,rfl,rfl,rfl,rfl,rfl,trivial⟩,⟨(Ext.chg (w:=w2) (by exact fx) c10).mono (fun b hb=>.inr (ho.base b hb)),by simp only;omega,by simp only;rw [List.take_succ_eq_append_getElem hil,List.map_append];subst hcc;exact o10,fun j hj hjl=>by
      simp only at hj
      by_cases e:j=i
      ·subst e;exact he
      ·exact hk j (by omega) hjl⟩,by simp only;omega⟩
    ·rw [aVe hc hg hil hk he]
     repeat' (first|(refine zC (d:=some 36) rfl (aOh (M:=M) (t:=t) (cs:=aK t iv ov) i hil hc bl _ (hV3.ext (by exact fx)) (R.ext ht3 (by exact fx))) ?_;rintro _ w4 ⟨c,rfl,hcc,x4⟩)|refine zE (d':=11) (fun _=>rfl) rfl rfl rfl (fun b7 w7 x7 a7 (r7:Row w7 ⟨b7,0,none⟩ c.cs) hb7=>?_)|refine zN (p:=inE f t bl t.ins[i]=0) rfl (fun _=>?_) (fun h=>absurd h he)|refine bL (d:=some 44) (cs:= [.int .i64 (i:Nat),aFi (inE f t bl t.ins[i])]) rfl ?_|refine zD (d:=some 45) (cs:= [.int .i64 (i:Nat),aFi (inE f t bl t.ins[i])]) rfl rfl (fun b8 w8 x8 a8 r8 hb8=>?_)|refine go1 ?_|refine zg λ_ _=>?_|refine zi λ_ _=>?_)
     exact aC rfl ⟨_,rfl,.inr ⟨he,(show (0:Int)≤((i:Nat):Int) by omega),b8,_, -1,rfl,a8,eJ.num _ _ he⟩,by exact fx⟩
   ·have ei:i=t.ins.length:=by omega
    subst ei
    rw [List.take_length] at ho
    have rp3:Row w3 ⟨bp,0,none⟩ (aK t iv ov):=rp.ext (by exact fx)
    have ht3:=R.ext ht0 (show Ext w w3 by exact fx)
    rw [aNn hc hg fun j hj=>hk j hj hj]
    by_cases hsum:kB (t.ins.map (inV f))=0
    ·have hgood:=sG hsum
     have hgv:=sG (pM hc)
     rw [if_neg (by simpa using hsum)]
     by_cases hv:fX (values t)>fX (t.ins.map (inV f))
     ·rw [if_pos hv]
      repeat' (first|(refine zC (d:=some 56) rfl (aH8 (l:=t.ins.map (inV f)) _ (SlE.ext (w:=w3) (by exact fx) ho.sl) (by simp;omega)) ?_;rintro _ _ ⟨rfl,rfl⟩;rw [hsum])|(refine zC (d:=some 65) rfl (aC5 (M:=M) (t:=t) (cs:=aK t iv ov) _ (R.ext ht3 (by exact fx)) hs) ?_;rintro _ w5 ⟨rfl,x5⟩)|refine zL (p:=fX (values t)>fX (t.ins.map (inV f))) rfl (fun _=>?_) (fun h=>absurd hv h)|refine go1 ?_|refine zg λ_ _=>?_|refine zi λ_ _=>?_)
      exact aC rfl ⟨_,rfl,eJ.num _ _ (by decide),by exact fx⟩
     ·rw [if_neg hv]
      repeat' (first|(refine zC (d:=some 56) rfl (aH8 (l:=t.ins.map (inV f)) _ (SlE.ext (w:=w3) (by exact fx) ho.sl) (by simp;omega)) ?_;rintro _ _ ⟨rfl,rfl⟩;rw [hsum])|(refine zC (d:=some 65) rfl (aC5 (M:=M) (t:=t) (cs:=aK t iv ov) _ (R.ext ht3 (by exact fx)) hs) ?_;rintro _ w5 ⟨rfl,x5⟩)|refine zL (p:=fX (values t)>fX (t.ins.map (inV f))) rfl (fun h=>absurd h hv) (fun _=>?_)|(refine zC (d:=some 75) rfl (bFr _ _ hgood hgv (by omega) _) ?_;rintro _ w6 ⟨rfl,x6⟩)|(refine zC (d:=some 80) rfl (bEx _) ?_;rintro _ w7 ⟨rfl,x7⟩)|refine go1 ?_|refine zg λ_ _=>?_|refine zi λ_ _=>?_)
      exact aC rfl ⟨_,rfl,eJ.none_ _ _,by exact fx⟩
    ·rw [if_pos hsum]
     repeat' (first|(refine zC (d:=some 56) rfl (aH8 (l:=t.ins.map (inV f)) _ (SlE.ext (w:=w3) (by exact fx) ho.sl) (by simp;omega)) ?_;rintro _ _ ⟨rfl,rfl⟩)|refine zN (p:=kB (t.ins.map (inV f))=0) rfl (fun _=>?_) (fun h=>absurd h hsum)|refine go1 ?_|refine zg λ_ _=>?_|refine zi λ_ _=>?_)
     exact aC rfl ⟨_,rfl,eJ.num _ _ hsum,by exact fx⟩
 ·rw [bC0 hc]
  repeat' (first|refine zD rfl rfl (fun bp wp xp ap (rp:Row wp ⟨bp,0,none⟩ (aK t iv ov)) hp0=>?_)|(refine zC (d:=some 20) rfl (aCa (M:=M) (t:=t) (cs:=aK t iv ov) _ (R.ext ht0 (by exact fx)) hs) ?_;rintro _ w2 ⟨rfl,x2⟩;rw [if_pos hc])|refine zN (p:=aG t=0) rfl (fun _=>?_) (fun h=>absurd h hc)|refine go1 ?_|refine zg λ_ _=>?_|refine zi λ_ _=>?_)
  exact aC rfl ⟨_,rfl,eJ.num _ _ hc,by exact fx⟩
end
section
open Go Go.K
attribute [local irreducible] aO aU bQ KOp.wp K.Spec u32 leS vnS str aV cU cD idT aR aG aX idN bD cF bT bH cA cO aZ bA aM iC dT
theorem aMh {g:Nat} {M:List Nat} {l:List Ent} {v:Value} {ids:List ByteArray} (more count size:Int) (w:World) (hG:GrR w g M l) (hM:∀b∈M,b<w.heap.size) (hi:SlE bO w v ids) (hn:ids.length≤4000) (hm:0≤more∧more≤1000000000):
  K.Spec Tryz.prog F.limit_within [.pointer (some ⟨g,0,none⟩),v,.int .i64 more,.int .i64 count,.int .i64 size] w fun r w'=>r=.bool (wiP l ids more count size)∧Ext w w':=by
 have hb:=(aF4 (l:=l) (fun x hx=>aD7 (hG.ok x hx)) hn).2
 refine aO6 rfl ?_
 unfold aCt
 refine oy ?_
 repeat' (first|refine go1 ?_|refine zg λ_ _=>?_|refine zi λ_ _=>?_|(refine zC rfl (aTb (M:=M) (l:=l) (ids:=ids) _ hG hM hi hn) ?_;rintro _ w2 ⟨rfl,x2⟩)|refine bY rfl (SlE.ext (w:=w) (by exact fx) hi) ?_|refine zJ rfl (fun h=>?_) (fun h=>?_))
 ·have e:wiP l ids more count size=decide (dT l ids+more≤size):=by unfold wiP;rw [dTr h,Bool.true_and]
  rw [e]
  exact aC rfl ⟨rfl,x2⟩
 ·have e:wiP l ids more count size=false:=by unfold wiP;rw [dFa h,Bool.false_and]
  rw [e]
  exact aC rfl ⟨rfl,x2⟩
theorem aHs (l:List Ent) (m:List Bool):(aM l m).length≤l.length:=by
 have:=(jJ l m).length_le
 simpa using this
theorem aY9 {g:Nat} {M:List Nat} {l:List Ent} {v:Value} {ids:List ByteArray} (more count size:Int) (w:World) (hG:GrR w g M l) (hM:∀b∈M,b<w.heap.size) (hi:SlE bO w v ids) (hn:ids.length≤4000) (hl:l.length≤1000) (hm:0≤more∧more≤1000000000):
  K.Spec Tryz.prog F.limit_housed [.pointer (some ⟨g,0,none⟩),v,.int .i64 more,.int .i64 count,.int .i64 size] w fun r w'=>r=.bool (hoP l ids more count size)∧Ext w w':=by
 refine aOl rfl ?_
 unfold aCc
 refine oy ?_
 repeat' (first|refine go1 ?_|refine zg λ_ _=>?_|refine zi λ_ _=>?_|refine zL rfl (fun h=>?_) (fun h=>?_)|refine zM rfl (fun h=>?_) (fun h=>?_)|refine bY rfl (SlE.ext (w:=w) (by exact fx) hi) ?_|(refine aQ (fun (i:Nat) w'=>Ext w w'∧i≤ids.length∧∀s∈ids.take i,wiP l (aM l (bA l s)) more count size=true) (fun i=> [(0,.pointer (some ⟨g,0,none⟩)),(2,.int .i64 more),(3,.int .i64 count),(4,.int .i64 size),(13,v),(14,.int .i64 (ids.length:Nat)),(15,.int .i64 i)]) (fun i=>ids.length - i) 0 ⟨rfl,rfl,rfl,rfl,rfl,rfl,rfl,trivial⟩ ⟨Ext.refl _,Nat.zero_le _,by simp⟩ ?_;rintro i ρ w3 ⟨x3,hi3,hk⟩)|(have hil:i<ids.length:=(by omega);refine aT (d:=some 17) (E:=bO) rfl rfl (n:=i) (l:=ids) (hi.ext x3) rfl hil (fun ad r5=>?_);have r5:Row w3 ad [Value.string ids[i]]:=r5)|(refine zC rfl (aL0 (M:=M) (l:=l) ids[i] _ (hG.ext (by exact fx)) (fun b hb=>nLt (hM b hb) (Ext.size (by exact fx))) hl) ?_;rintro vb w6 ⟨ob,x6⟩;have sb:=ob.sl)|(refine zC rfl (aMh (M:=M) (l:=l) (ids:=aM l (bA l ids[i])) more count size _ (hG.ext (by exact fx)) (fun b hb=>nLt (hM b hb) (Ext.size (by exact fx))) sb (nTr (aHs _ _) (by omega)) hm) ?_;rintro _ w7 ⟨rfl,x7⟩))
 ·have e:hoP l ids more count size=false:=by
   unfold hoP
   rw [List.all_eq_false]
   exact ⟨_,gMe hil,by simpa using h⟩
  rw [e]
  exact aC rfl ⟨rfl,by exact fx⟩
 ·refine ⟨i+1,⟨rfl,rfl,rfl,rfl,rfl,rfl,rfl,trivial⟩,⟨by exact fx,by omega,fun s hs=>?_⟩,by omega⟩
  rw [List.take_succ_eq_append_getElem hil] at hs
  rcases List.mem_append.1 hs with h1|h1
  ·exact hk s h1
  ·simp only [List.mem_singleton] at h1;subst h1;simpa using h
 ·have e:hoP l ids more count size=true:=by
   unfold hoP
   rw [tLe (by omega)] at hk
   exact List.all_eq_true.2 hk
  rw [e]
  exact aC rfl ⟨rfl,by exact fx⟩
theorem aSp {g:Nat} {M N:List Nat} {l:List Ent} {cs:List Value} {t:Tx} (w:World) (hG:GrR w g M l) (hM:∀b∈M,b<w.heap.size) (ht:txR.rel N w cs t) (hs:t.Sm) (hl:l.length≤1000):
  K.Spec Tryz.prog F.limit_Fits [.pointer (some ⟨g,0,none⟩),.agg cs.toArray] w fun r w'=>r=.int .i64 (dF l t)∧Ext w w':=by
 have ht0:=ht
 obtain ⟨iv,ov,rfl, -⟩:=ht
 by_cases hc:aG t=0
 ·have hz:=bI hs hc
  have hz2:=hz.size
  have hmore:(0:Int)≤((aR t:Nat):Int)∧((aR t:Nat):Int)≤1000000000:=by omega
  have e0:lF t=.tuple #[.int .i64 (aR t:Nat),.int .i64 0]:=by rw [lF,if_pos hc]
  have hLe:=aHs l (aZ l t)
  have hfit:dF l t=if wiP l (aM l (aZ l t)) (aR t:Nat) 25 101000=false then 14 else if hoP l (aM l (aZ l t)) (aR t:Nat) 25 101000 then 0
   else if ((aM l (aZ l t)).length:Int)=1∧((aR t:Nat):Int)≤10000∧hoP l (aM l (aZ l t)) (aR t:Nat) 26 111000=true then 0 else 14:=by
   rw [dF,if_neg (by simpa using hc)]
  rw [hfit]
  refine aI7 rfl ?_
  unfold aA2
  refine oy ?_
  repeat' (first|refine go1 ?_|refine zg λ_ _=>?_|refine zi λ_ _=>?_|refine zK rfl (fun h=>?_) (fun h=>?_)|refine zM rfl (fun h=>?_) (fun h=>?_)|refine zJ rfl (fun h=>?_) (fun h=>?_)|refine zD rfl rfl (fun bp wp xp ap (rp:Row wp ⟨bp,0,none⟩ (aK t iv ov)) hp0=>?_)|(refine zC rfl (fW (M:=N) (cs:=aK t iv ov) (t:=t) _ (R.ext ht0 (by exact fx)) hs) ?_;rintro _ w3 ⟨rfl,x3⟩;rw [e0])|(refine zC rfl (aDd (M:=M) (N:=N) (l:=l) (cs:=aK t iv ov) (t:=t) _ (hG.ext (by exact fx)) (fun b hb=>nLt (hM b hb) (Ext.size (by exact fx))) (R.ext ht0 (by exact fx)) hs.ins hl) ?_;rintro va w4 ⟨oa,x4⟩;have sa:=oa.sl)|(refine zC rfl (aMh (M:=M) (l:=l) (ids:=aM l (aZ l t)) _ _ _ _ (hG.ext (by exact fx)) (fun b hb=>nLt (hM b hb) (Ext.size (by exact fx))) (SlE.ext (by exact fx) sa) (by omega) hmore) ?_;rintro _ w5 ⟨rfl,x5⟩)|(refine zC rfl (aY9 (M:=M) (l:=l) (ids:=aM l (aZ l t)) _ _ _ _ (hG.ext (by exact fx)) (fun b hb=>nLt (hM b hb) (Ext.size (by exact fx))) (SlE.ext (by exact fx) sa) (by omega) hl hmore) ?_;rintro _ w6 ⟨rfl,x6⟩)|refine bY rfl (SlE.ext (by exact fx) sa) ?_)
  all_goals clear hG hM ht0 rp ap
  all_goals exact aC rfl ⟨congrArg (Value.int .i64) (by first|(simp_all;done)|(simp_all;intros;omega)),by exact fx⟩
 ·have e0:lF t=.tuple #[.int .i64 0,.int .i64 (aG t)]:=by rw [lF,if_neg hc]
  have hfit:dF l t=aG t:=by rw [dF,if_pos hc]
  rw [hfit]
  refine aI7 rfl ?_
  unfold aA2
  refine oy ?_
  repeat' (first|refine go1 ?_|refine zg λ_ _=>?_|refine zi λ_ _=>?_|refine zN rfl (fun h=>?_) (fun h=>absurd h hc)|refine zD rfl rfl (fun bp wp xp ap (rp:Row wp ⟨bp,0,none⟩ (aK t iv ov)) hp0=>?_)|(refine zC rfl (fW (M:=N) (cs:=aK t iv ov) (t:=t) _ (R.ext ht0 (by exact fx)) hs) ?_;rintro _ w3 ⟨rfl,x3⟩;rw [e0]))
  exact aC rfl ⟨rfl,by exact fx⟩
end
end Go.Proofs.YtfebcajheojodaaGreatDoor
