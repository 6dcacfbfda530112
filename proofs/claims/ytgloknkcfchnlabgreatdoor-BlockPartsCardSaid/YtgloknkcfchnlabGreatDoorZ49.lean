/- Contracts: a block's transactions over coins, five at most;  -/
import Derived.Test.YtgloknkcfchnlabGreatDoorZ47
import Derived.Test.YtgloknkcfchnlabGreatDoorZ48
set_option linter.unusedVariables false
set_option linter.unusedSimpArgs false
namespace Go.Proofs.YtgloknkcfchnlabGreatDoor
section
open Go Go.K
attribute [local irreducible] aG aK aU KOp.wp K.Spec u32 leS vnS str aN aJ aO bH idT aV inE gY gL fW cG cS
set_option maxHeartbeats 8000000 in
theorem aAf {M:List Nat} {lv sv:Value} {l:List En} {zs:List BSm} (h:Int) (w:World) (hv:SlE bE w lv l) (hg:CG l) (hsc:SC l) (hz:SlR pA M w sv zs) (hn:l.length≤70000) (hh:0≤h∧h≤1000000) (hM:∀b∈M,b<w.heap.size):
  K.Spec Tryz.prog F.kedgelaw12_made [lv,sv,.int .i64 h] w fun r w'=>∃txs,bD txR T.api_Tx w.heap.size M w' r txs∧txs.length≤5∧(∀t∈txs,MkOk t)∧Ext w w':=by
 refine zR rfl ?_
 unfold nP
 refine oy ?_
 repeat (first|refine zG (d:=some 15) (E:=pA) (M:=M) (l:=zs) rfl hz ?_|refine aGc (d:=some 17) (E:=pA) (n:=min zs.length 5) rfl rfl (by omega) hz (by omega) rfl (fun v' hv'=>?_)|refine zG (d:=some 18) (E:=pA) (M:=M) (l:=zs.take (min zs.length 5)) rfl hv' ?_|refine go1 ?_|refine zg λ_ _=>?_|refine zi λ_ _=>?_)
 have hSl:(zs.take (min zs.length 5)).length≤5:=by rw [List.length_take];omega
 generalize zs.take (min zs.length 5)=S at*
 clear hz
 refine aL (fun (p:Nat × Value × List Tx × Value × List En) w'=>Ext w w'∧p.1≤S.length∧bD txR T.api_Tx w.heap.size M w' p.2.1 p.2.2.1∧p.2.2.1.length=p.1∧(∀t∈p.2.2.1,MkOk t)∧SlE bE w' p.2.2.2.1 p.2.2.2.2∧CG p.2.2.2.2∧SC p.2.2.2.2∧p.2.2.2.2.length≤l.length+3*p.1∧(0<p.2.2.2.2.length→∀y∈aH p.2.2.2.1,y∉aH p.2.1)) (fun p=> [(2,.int .i64 h),(7,p.2.1),(8,p.2.2.2.1),(17,v'),(18,.int .i64 (S.length:Nat)),(19,.int .i64 (p.1:Nat))]) (fun p=>S.length - p.1) (0,.slice none 0 0, [],lv,l) ⟨rfl,rfl,rfl,rfl,rfl,rfl,trivial⟩ ⟨Ext.refl _,by simp,bD.nil _ _ _ _,rfl,by simp,hv,hg,hsc,by simp,fun _ y _ hm=>by simp [aH] at hm⟩ ?_
 rintro ⟨k,vo,txs,vm,m⟩ ρ w1 ⟨x1,hk,o1,htl,hmk,hm1,g1,sc1,hml,hoff⟩
 simp only at hk o1 htl hmk hm1 g1 sc1 hml hoff
 dsimp only
 have s1:=x1.size
 repeat (first|refine go1 ?_|refine zg λ_ _=>?_|refine zi λ_ _=>?_)
 refine zL (x:=.tmp 20) (p:=((k:Nat):Int)<((S.length:Nat):Int)) rfl (fun h5=>?_) (fun h5=>?_)
 ·have hkl:k<S.length:=by omega
  have hM1:∀b∈M,b<w1.heap.size:=fun b hb=>nLt (hM b hb) s1
  have o1b:=o1.base
  have o1l:=o1.lt
  have hM1':∀b∈aH vo++M,b<w1.heap.size:=fun b hb=>by
   rcases List.mem_append.1 hb with hb|hb
   ·exact o1l b hb
   ·exact hM1 b hb
  have hvz:SlR pA (aH vo++M) w1 v' S:=hv'.step x1 (by simp) (aDv o1b)
  repeat (first|(refine aM (d:=some 22) (E:=pA) (M:=aH vo++M) rfl rfl (n:=k) (l:=S) hvz rfl hkl (fun ad cs r4 he=>?_);obtain ⟨fv,rfl,hfr, -⟩:=id he;obtain ⟨q1,q2,efv⟩:=hfr.form)|refine uX (d':=10) (e:=9) (fun _=>rfl) (fun _=>rfl) rfl rfl rfl (by rw [efv];rfl) (fun b10 w2 x2 a2 (r2:Row w2 ⟨b10,0,none⟩ (mL S[k] fv)) hb2=>?_)|refine go1 ?_|refine zg λ_ _=>?_|refine zi λ_ _=>?_)
  have s2:=x2.size
  refine zC (d:=some 27) rfl (aCy (M:=aH vo++M) (cs:=mL S[k] fv) (l:=m) (z:=S[k]) h _ (hm1.ext x2) g1 sc1 (R.ext he x2) (by omega) hh (fun b hb=>nLt (hM1' b hb) s2)) ?_
  rintro _ w3 ⟨cs',t,rfl,t3,mk3,x3⟩
  have ht3:=t3.rel (fun b hb=>nLt (hM1' b hb) s2)
  have ones:=txR.one ht3
  have hl4:=txR.len ht3
  obtain ⟨c0,c1,c2,c3,rfl⟩:∃c0 c1 c2 c3,cs'= [c0,c1,c2,c3]:=by
   match cs',hl4 with
   | [c0,c1,c2,c3],_=>exact ⟨c0,c1,c2,c3,rfl⟩
  repeat (first|refine zE (d':=11) (fun _=>rfl) rfl rfl (List.all_eq_true.2 ones) (fun b11 w4 x4 a4 (r4:Row w4 ⟨b11,0,none⟩ [c0,c1,c2,c3]) hb4=>?_)|refine zI (d:=some 30) (cs:= [c0,c1,c2,c3]) rfl (fun b30 w5 x5 a5 hb5=>?_)|refine go1 ?_|refine zg λ_ _=>?_|refine zi λ_ _=>?_)
  have x35:Ext w3 w5:=x4.trans x5
  have x15:Ext w1 w5:=(x2.trans x3).trans x35
  refine fM (d:=some 31) (E:=txR) (M:=M) (v:=vo) (cs:= [c0,c1,c2,c3]) (a:=t) rfl rfl (o1.ext x15) (nTr s1 x15.size) rfl rfl a5 (R.ext ht3 x35) (by omega) (fun v6 w6 o6 c6 hb6=>?_)
  have s36:=x3.size
  have s45:=x4.size
  have s56:=x5.size
  have s66:=c6.size
  have ht6:txR.rel (aH vo++M) w6 [c0,c1,c2,c3] t:=txR.step (R.ext ht3 x35) c6 (fun y hy=>.inl (by simp [hy])) (fun y hy=>.inl hy)
  have r6:=Row.chg c6 (Row.ext x5 r4) (fun h=>by have:=o1l _ h;simp only at this;omega)
  have hm6:SlE bE w6 vm m:=SlE.offO (hm1.ext x15) c6 hoff
  have x06:Ext w w6:=(Ext.chg (x1.trans x15) c6).mono (fun y hy=>.inr (o1b y hy))
  have hol:=mk3.outs
  repeat (first|refine go1 ?_|refine zg λ_ _=>?_|refine zi λ_ _=>?_)
  refine zC (d:=some 37) rfl (wG (M:=aH vo++M) (cs:= [c0,c1,c2,c3]) (t:=t) (l:=m) k h _ (by omega) hm6 g1 sc1 ht6 mk3.sm (by omega)) ?_
  rintro _ w7 ⟨vl,rfl,hvl,hnew,x7⟩
  unfold aOh
  have hlo:=pX g1 t k h
  repeat (first|refine go1 ?_|refine zg λ_ _=>?_|refine zi λ_ _=>?_)
  refine ⟨(k+1,v6,txs++ [t],vl,(cG m t k h).1),⟨rfl,rfl,rfl,rfl,rfl,rfl,trivial⟩,⟨x06.trans x7,by simp only;omega,o6.ext x7,by simp [htl],fun y hy=>?_,hvl,jY g1 _ _ _,uH g1 sc1 _ _ _,by simp only;omega,fun hp y hy hv6=>?_⟩,by simp only;omega⟩
  ·rcases List.mem_append.1 hy with hy|hy
   ·exact hmk y hy
   ·simp at hy;subst hy;exact mk3
  ·rcases hnew with ⟨rfl,e⟩|hf
   ·simp only [e] at hp
    have hlt:=SlE.blk_lt hm1 hp y hy
    rcases hb6 y hv6 with h|h
    ·exact hoff hp y hy h
    ·have:=x15.size;omega
   ·have:=hf y hy
    have:=o6.lt y hv6
    omega
 ·repeat (first|refine go1 ?_|refine zg λ_ _=>?_|refine zi λ_ _=>?_)
  exact aB rfl ⟨txs,o1,by omega,hmk,x1⟩
end
section
open Go Go.RowKit Go.Extern.Stop Go.Stop Go.Extern
theorem aXw (v:Value) (xT:TypeId) (w:World):(Instr.typeAssert (.iface 89 v) xT 140 true).run Tryz.prog w=.ok (.tuple #[.nilIface,.bool false]) w:=run_typeAssert_lacksB Tryz.underlying140 (by kernel_rfl) (by kernel_rfl) v xT w
set_option maxRecDepth 20000 in
theorem aRi (a:Int) (b1:Nat) (w:World) (hc1:w.cell? ⟨b1,1,none⟩=some (.iface 45 (.int .i64 a))):
  Calls Tryz.prog 12 #[.iface 89 (.pointer (some ⟨b1,0,none⟩)),.iface 45 (.int .i64 a)] w fun e w'=>e=.returned (.bool true)∧w'=w:=by
 have h8:=@run_callFunc_extern Tryz.prog 38 _ Extern.ReflectliteType.typeOf Tryz.func38 (by kernel_rfl) (by kernel_rfl) (by kernel_rfl) (by kernel_rfl)
 have h32:=@run_callFunc_extern Tryz.prog 215 _ (Extern.ReflectliteType.method fun t=>do Extern.Rtype.noPackHeld "Comparable" t;pure (.bool (←typeInfo t).comparable)) Tryz.func215 (by kernel_rfl) (by kernel_rfl) (by kernel_rfl) (by kernel_rfl)
 have tT:=aKf
 have cT:=aAz
 have mR:=mB
 have heq:=Go.Lib.run_eql_iface_int (P:=Tryz.prog) w (t:=31) (tx:=45) (k:=.i64) (q:=.i64) a a Tryz.underlying31 (by kernel_rfl) Tryz.underlying45
 have hne:=run_eql_iface_types (P:=Tryz.prog) (ti:=31) 89 45 (.pointer (some ⟨b1,0,none⟩)) (.int .i64 a) Tryz.underlying31 (by decide) w
 have nF:=aXw
 have uF:=aDy
 have mU:=uT
 go_enter Tryz.func12,Tryz.ntmps12
 go_wp2
 refine wp_loop_rounds 2 ?_
 rw [rounds_succ]
 go_wp2
 rw [rounds_succ]
 go_wp2
 go_ret
 exact ⟨rfl,rfl⟩
set_option maxRecDepth 20000 in
theorem aRr (a:Int) (b1 b2:Nat) (w:World) (hc1:w.cell? ⟨b1,1,none⟩=some (.iface 89 (.pointer (some ⟨b2,0,none⟩)))) (hc2:w.cell? ⟨b2,1,none⟩=some (.iface 45 (.int .i64 a))):
  Calls Tryz.prog 12 #[.iface 89 (.pointer (some ⟨b1,0,none⟩)),.iface 45 (.int .i64 a)] w fun e w'=>e=.returned (.bool true)∧w'=w:=by
 have h8:=@run_callFunc_extern Tryz.prog 38 _ Extern.ReflectliteType.typeOf Tryz.func38 (by kernel_rfl) (by kernel_rfl) (by kernel_rfl) (by kernel_rfl)
 have h32:=@run_callFunc_extern Tryz.prog 215 _ (Extern.ReflectliteType.method fun t=>do Extern.Rtype.noPackHeld "Comparable" t;pure (.bool (←typeInfo t).comparable)) Tryz.func215 (by kernel_rfl) (by kernel_rfl) (by kernel_rfl) (by kernel_rfl)
 have tT:=aKf
 have cT:=aAz
 have mR:=mB
 have heq:=Go.Lib.run_eql_iface_int (P:=Tryz.prog) w (t:=31) (tx:=45) (k:=.i64) (q:=.i64) a a Tryz.underlying31 (by kernel_rfl) Tryz.underlying45
 have hne:=run_eql_iface_types (P:=Tryz.prog) (ti:=31) 89 45 (.pointer (some ⟨b1,0,none⟩)) (.int .i64 a) Tryz.underlying31 (by decide) w
 have hne2:=run_eql_iface_types (P:=Tryz.prog) (ti:=31) 89 45 (.pointer (some ⟨b2,0,none⟩)) (.int .i64 a) Tryz.underlying31 (by decide) w
 have nF:=aXw
 have uF:=aDy
 have mU:=uT
 go_enter Tryz.func12,Tryz.ntmps12
 go_wp2
 refine wp_loop_rounds 3 ?_
 rw [rounds_succ]
 go_wp2
 rw [rounds_succ]
 go_wp2
 rw [rounds_succ]
 go_wp2
 go_ret
 exact ⟨rfl,rfl⟩
theorem zV (a:Int) (b1:Nat) (w:World) (hc1:w.cell? ⟨b1,1,none⟩=some (.iface 45 (.int .i64 a))):K.Spec Tryz.prog 12 [.iface 89 (.pointer (some ⟨b1,0,none⟩)),.iface 45 (.int .i64 a)] w fun v w'=>v=.bool true∧w'=w:=
 Calls.mono (aRi a b1 w hc1) fun _ _ h=>⟨_,h.1,rfl,h.2⟩
theorem aIt (a:Int) (b1 b2:Nat) (w:World) (hc1:w.cell? ⟨b1,1,none⟩=some (.iface 89 (.pointer (some ⟨b2,0,none⟩)))) (hc2:w.cell? ⟨b2,1,none⟩=some (.iface 45 (.int .i64 a))):K.Spec Tryz.prog 12 [.iface 89 (.pointer (some ⟨b1,0,none⟩)),.iface 45 (.int .i64 a)] w fun v w'=>v=.bool true∧w'=w:=
 Calls.mono (aRr a b1 b2 w hc1 hc2) fun _ _ h=>⟨_,h.1,rfl,h.2⟩
end
end Go.Proofs.YtgloknkcfchnlabGreatDoor
namespace Go.K
section
open Go Go.Proofs.YtgloknkcfchnlabGreatDoor
def mD:List En:=(aP [] [gw 3] 3).1
theorem aBj:decide ((aP [] [gw 3] 3).2=(0, -1, -1)∧mD.length=1∧tot mD=5)=true:=by kernel_rfl
theorem aOw:decide ((aP mD [gw 3] 4).2=(4,0, -1))=true:=by kernel_rfl
theorem aZz:(aP [] [gw 3] 3).2=(0, -1, -1):=(of_decide_eq_true aBj).1
theorem aZj:(aP mD [gw 3] 4).2=(4,0, -1):=of_decide_eq_true aOw
theorem aJ9:mD.length=1:=(of_decide_eq_true aBj).2.1
theorem aXi:tot mD=5:=(of_decide_eq_true aBj).2.2
theorem aMb (l:List En):bO [] l= []:=rfl
theorem aLg (l:List En):bO l []=l:=by
 unfold bO
 refine List.filter_eq_self.2 fun e _=>?_
 simp [aX]
end
end Go.K
namespace Go.Proofs.YtgloknkcfchnlabGreatDoor
section
open Go Go.K
attribute [local irreducible] aG aK aU KOp.wp K.Spec u32 leS vnS str aN aJ aP bH idT aV bsW EtR mD bO
theorem aWm {l:List En} {txs:List Tx} {b:Int} (h0:(aP l txs b).2.1≠0):(aP l txs b).1=l:=aD5 h0
set_option maxHeartbeats 4000000 in
theorem lC (w:World) (hg:EtR w):K.Spec Tryz.prog F.kedgelaw12_wakes [] w fun r w'=>r=.bool true∧Ext w w':=by
 refine wP rfl ?_
 unfold mP
 refine oy ?_
 repeat (first|refine go1 ?_|refine zg λ_ _=>?_|refine zi λ_ _=>?_)
 refine zC (d:=some 8) rfl (aBg _) ?_
 rintro _ w1 ⟨b,mb,rfl,S1,hb1,hb2,x1⟩
 have hlt:=S1.lt
 have hne:=S1.ne
 have hM1:∀y∈ [b,mb],y<w1.heap.size:=fun y hy=>by simp at hy;rcases hy with rfl|rfl;exact hlt.1;exact hlt.2
 repeat (first|refine bT (d:=some 11) (cs:= [.int .i64 5,.string ⟨#[]⟩]) rfl ?_|refine zI (d:=some 12) (cs:= [.int .i64 5,.string ⟨#[]⟩]) rfl (fun b3 w3 x3 a3 hb3=>?_)|refine go1 ?_|refine zg λ_ _=>?_|refine zi λ_ _=>?_)
 have ho:SlR cZ [b,mb] w3 (.slice (some ⟨b3,0,none⟩) 1 1) o5:=aPy (E:=cZ) a3 ⟨rfl,⟨by decide,by decide⟩⟩ (fun hm=>by have:=hM1 _ hm;omega)
 have hM3:∀y∈ [b,mb],y<w3.heap.size:=fun y hy=>nLt (hM1 y hy) x3.size
 refine zC (d:=some 13) rfl (wV (M:= [b,mb]) (outs:=o5) 3 _ ⟨by omega,by omega⟩ ho (by decide) hM3) ?_
 rintro _ w4 ⟨cs,rfl,t4,x4⟩
 obtain ⟨iv,ov,rfl, -⟩:=id t4
 have ones:=txR.one (t4.rel hM3)
 repeat (first|refine zI (d:=some 14) (cs:=aT (grT 3 o5) iv ov) rfl (fun b5 w5 x5 a5 hb5=>?_)|refine go1 ?_|refine zg λ_ _=>?_|refine zi λ_ _=>?_)
 have hx5:=aJx t4 hM3 x5 a5 hb5 (fun y hy=>nLt (hM3 y hy) x4.size)
 have x15:Ext w1 w5:=x3.trans (x4.trans x5)
 have hM5:∀y∈ [b,mb],y<w5.heap.size:=fun y hy=>nLt (hM1 y hy) x15.size
 refine zC (d:=some 15) rfl (eJ (M:= [b,mb]) (txs:= [gw 3]) (l:= []) 3 _ (S1.ext x15) CG.nil SC.nil (by simp) (by simp) hM5 hx5 (by simp;exact aVo _) (by decide) (by simp)) ?_
 rintro _ w6 ⟨sv,mv,e,rfl,E6,S6,hA, -,c6⟩
 rw [aZz] at E6
 obtain rfl:=(pP.nilD E6).1 rfl
 obtain ⟨hsv,hmv,hvb⟩:=hA (by rw [aZz])
 rw [show (aP [] [gw 3] 3).1=mD by unfold mD;rfl] at S6 hsv hmv
 have o1:sv.oneCell'=true:=by obtain ⟨_,_,q⟩:=hsv.form;rw [q];rfl
 have o2:mv.oneCell'=true:=by obtain ⟨_,_,q⟩:=hmv.form;rw [q];rfl
 have s15:=x15.size
 have s01:=x1.size
 have x06:Ext w w6:=(Ext.chg (x1.trans x15) c6).mono (fun y hy=>.inr (by simp at hy;omega))
 have hs6:SlR enR [b,mb] w6 sv (bO [] mD):=hsv.en fun y hy hm=>by have:=hvb y (.inl hy);have:=hM5 y hm;omega
 have hm6:SlR enR [b,mb] w6 mv (bO mD []):=hmv.en fun y hy hm=>by have:=hvb y (.inr hy);have:=hM5 y hm;omega
 have hM6:∀y∈ [b,mb],y<w6.heap.size:=fun y hy=>nLt (hM5 y hy) c6.size
 have ones2:([sv,mv]:List Value).all (fun v=>v.oneCell')=true:=by simp [o1,o2]
 repeat (first|refine zE (d':=2) (fun _=>rfl) rfl rfl ones2 (fun b2 w7 x7 a7 (r7:Row w7 ⟨b2,0,none⟩ [sv,mv]) hb2'=>?_)|refine go1 ?_|refine zg λ_ _=>?_|refine zi λ_ _=>?_)
 have l7:=a7.lt
 refine zC (d:=some 19) rfl (aMp _ (S6.ext x7)) ?_
 rintro _ w8 ⟨rfl,x8⟩
 rw [aXi]
 have hM8:∀y∈ [b,mb],y<w8.heap.size:=fun y hy=>nLt (hM6 y hy) (nTr x7.size x8.size)
 repeat (first|refine bT (d:=some 22) (cs:= [.int .i64 5,.string ⟨#[]⟩]) rfl ?_|refine zI (d:=some 23) (cs:= [.int .i64 5,.string ⟨#[]⟩]) rfl (fun b13 w13 x13 a13 hb13=>?_)|refine go1 ?_|refine zg λ_ _=>?_|refine zi λ_ _=>?_)
 have ho3:SlR cZ [b,mb] w13 (.slice (some ⟨b13,0,none⟩) 1 1) o5:=aPy (E:=cZ) a13 ⟨rfl,⟨by decide,by decide⟩⟩ (fun hm=>by have:=hM8 _ hm;omega)
 have hM13:∀y∈ [b,mb],y<w13.heap.size:=fun y hy=>nLt (hM8 y hy) x13.size
 refine zC (d:=some 24) rfl (wV (M:= [b,mb]) (outs:=o5) 3 _ ⟨by omega,by omega⟩ ho3 (by decide) hM13) ?_
 rintro _ w14 ⟨cs,rfl,t14,x14⟩
 obtain ⟨iv2,ov2,rfl, -⟩:=id t14
 have ones3:=txR.one (t14.rel hM13)
 repeat (first|refine zI (d:=some 25) (cs:=aT (grT 3 o5) iv2 ov2) rfl (fun b15 w15 x15 a15 hb15=>?_)|refine go1 ?_|refine zg λ_ _=>?_|refine zi λ_ _=>?_)
 have hx15:=aJx t14 hM13 x15 a15 hb15 (fun y hy=>nLt (hM13 y hy) x14.size)
 have x615:Ext w6 w15:=(x7.trans x8).trans (x13.trans (x14.trans x15))
 have x715:Ext w7 w15:=x8.trans (x13.trans (x14.trans x15))
 have hM15:∀y∈ [b,mb],y<w15.heap.size:=fun y hy=>nLt (hM6 y hy) x615.size
 have hcg:CG mD:=by
  have:CG (aP [] [gw 3] 3).1:=vI CG.nil _ _
  unfold mD;exact this
 have hsc:SC mD:=by
  have:SC (aP [] [gw 3] 3).1:=vK CG.nil SC.nil _ _
  unfold mD;exact this
 refine zC (d:=some 26) rfl (eJ (M:= [b,mb]) (txs:= [gw 3]) (l:=mD) 4 _ (S6.ext x615) hcg hsc (by simp) (by simp) hM15 hx15 (by simp;exact aVo _) (by rw [aJ9];decide) (by simp)) ?_
 rintro _ w16 ⟨sv2,mv2,e2,rfl,E16,S16, -,hB,c16⟩
 rw [aZj] at E16
 obtain ⟨rfl,rfl⟩:=hB (by rw [aZj];decide)
 rw [aWm (by rw [aZj];decide)] at S16
 have r16:Row w16 ⟨b2,0,none⟩ [sv,mv]:=Row.chg c16 (Row.ext x715 r7) (by have:=hM6 b (by simp);have:=hM6 mb (by simp);simp;omega)
 have c616:Chg [b,mb] w6 w16:=Chg.trans x615 c16
 have x016:Ext w w16:=(Ext.chg x06 c616).mono (fun y hy=>.inr (by simp at hy;omega))
 have hs16:SlR enR [b,mb] w16 sv (bO [] mD):=hs6.step c616 (fun y hy=>.inl hy) (fun y hy=>.inl hy)
 have hm16:SlR enR [b,mb] w16 mv (bO mD []):=hm6.step c616 (fun y hy=>.inl hy) (fun y hy=>.inl hy)
 obtain ⟨bF,uF,rfl,aF,eF⟩:∃bF u,e2=.iface T.P_api_Fault (.pointer (some ⟨bF,0,none⟩))∧At w16 bF (.cells [.int .i64 0,u].toArray T.api_Fault (0,0))∧dA w16 1 u 4 (-1):=by
  rcases E16 with ⟨h, -⟩|⟨-,⟨-,h, -⟩|⟨-,bF,u,h3,h4,h5⟩⟩
  ·exact absurd h (by decide)
  ·exact absurd h (by decide)
  ·exact ⟨bF,u,h3,h4,h5⟩
 have hu:uF=yW 4:=by
  rcases eF with h|⟨-,h, -⟩
  ·exact mY h (by decide)
  ·exact absurd h (by decide)
 subst hu
 repeat (first|refine zE (d':=5) (fun _=>rfl) rfl rfl rfl (fun b17 w17 x17 a17 (r17:Row w17 ⟨b17,0,none⟩ [.slice none 0 0,.slice none 0 0]) hb17=>?_)|refine go1 ?_|refine zg λ_ _=>?_|refine zi λ_ _=>?_)
 have hsw:=aBl hcg CG.nil
 refine zC (d:=some 31) rfl (yX (l:=mD) (spent:=bO [] mD) (made:=bO mD []) _ (S16.ext x17) (hs16.ext x17) (hm16.ext x17) (by rw [aMb];simp) (by rw [aLg,aJ9];decide) (by rw [hsw])) ?_
 rw [hsw]
 rintro _ w18 ⟨rfl,S18,c18⟩
 have c1618:Chg [b,mb] w16 w18:=Chg.trans x17 c18
 have hbF:bF∉ [b,mb]:=fun hm=>by
  obtain ⟨_,_,_,hS⟩:=S16
  simp at hm
  rcases hm with rfl|rfl
  ·have:=hS.1.inj aF
   simp only [Obj.cells.injEq] at this
   exact absurd this.2.1 (by decide)
  ·obtain ⟨es,ck,h1, -⟩:=hS.2.1
   have:=h1.inj aF
   cases this
 have r18:Row w18 ⟨b2,0,none⟩ [sv,mv]:=Row.chg c18 (Row.ext x17 r16) (by have:=hM6 b (by simp);have:=hM6 mb (by simp);simp;omega)
 have aF18:=aF.chg c1618 hbF
 have x018:Ext w w18:=(Ext.chg x016 c1618).mono (fun y hy=>.inr (by simp at hy;omega))
 have hs18:=hs16.step c1618 (fun y hy=>.inl hy) (fun y hy=>.inl hy) (M':= [b,mb])
 have hm18:=hm16.step c1618 (fun y hy=>.inl hy) (fun y hy=>.inl hy) (M':= [b,mb])
 have e18:dA w18 2 (.iface T.P_api_Fault (.pointer (some ⟨bF,0,none⟩))) 4 0:=.inr ⟨by decide,by decide,bF,_, -1,rfl,aF18,.inl ⟨rfl,.inr ⟨by decide,rfl⟩⟩⟩
 repeat (first|(refine zG (d:=some 41) (E:=enR) (M:= [b,mb]) (l:=bO mD []) rfl hm18 ?_;rw [aLg,aJ9])|(refine zG (d:=some 47) (E:=enR) (M:= [b,mb]) (l:=bO [] mD) rfl hs18 ?_;rw [aMb])|refine go1 ?_|refine zg λ_ _=>?_|refine zi λ_ _=>?_)
 refine zC (d:=some 53) rfl (zV 4 bF _ (jA aF18 rfl)) ?_
 rintro _ w19 ⟨rfl,rfl⟩
 repeat (first|refine go1 ?_|refine zg λ_ _=>?_|refine zi λ_ _=>?_)
 refine zC (d:=some 57) rfl (xJ (hg.ext x018) e18) ?_
 rintro _ w20 ⟨rfl,x20⟩
 repeat (first|refine go1 ?_|refine zg λ_ _=>?_|refine zi λ_ _=>?_)
 refine zC (d:=some 66) rfl (aSx _ (S18.ext x20)) ?_
 rintro _ w21 ⟨rfl,x21⟩
 repeat (first|refine go1 ?_|refine zg λ_ _=>?_|refine zi λ_ _=>?_)
 exact aB rfl ⟨rfl,x018.trans (x20.trans x21)⟩
end
end Go.Proofs.YtgloknkcfchnlabGreatDoor
section
namespace Go.K
open Go Go.Proofs.YtgloknkcfchnlabGreatDoor
end Go.K
namespace Go.Proofs.YtgloknkcfchnlabGreatDoor
open Go Go.K
attribute [local irreducible] aG aK aU KOp.wp K.Spec u32 leS vnS str aN aJ aP bH idT aV EtR bO
end Go.Proofs.YtgloknkcfchnlabGreatDoor
end
section
namespace Go.Proofs.YtgloknkcfchnlabGreatDoor
open Go Go.K
theorem aRm {w:World} {v:Value} {l m:List En} {b mb:Nat} {t:TypeId} (h:SlE bE w v l) (hS:dD t w b mb m) (hp:0<l.length):∀y∈aH v,y∉ [b,mb]:=by
 obtain ⟨_,_,_,hE⟩:=hS
 obtain ⟨h1,base,cap,rfl,hc,h2⟩:=h
 have hpos:0<(bE.flat l).length:=by rw [Enc.flat_length];exact Nat.mul_pos hp bE.pos
 obtain ⟨a,rfl,hr⟩:=h2 hpos
 intro y hy hm
 simp only [aH,List.mem_singleton] at hy
 subst hy
 obtain ⟨e,es,rfl⟩:∃e es,l=e::es:=by
  cases l with
  |nil=>simp at hp
  |cons e es=>exact ⟨e,es,rfl⟩
 have hcell:=hr 0 (.string e.1.s) rfl
 rw [add_zero] at hcell
 simp only [List.mem_cons,List.not_mem_nil,or_false] at hm
 rcases hm with hm|hm
 ·have:=aJd hE.1 hm hcell
  simp at this
 ·obtain ⟨es,ck,h3, -⟩:=hE.2.1
  unfold World.cell? at hcell
  unfold At at h3
  rw [hm,h3] at hcell
  simp at hcell
theorem SlE.offS {w w':World} {v:Value} {l m:List En} {b mb:Nat} {t:TypeId} (h:SlE bE w v l) (hS:dD t w b mb m) (c:Chg [b,mb] w w'):SlE bE w' v l:=SlE.offO h c (fun hp=>aRm h hS hp)
attribute [local irreducible] aG aK aU KOp.wp K.Spec
theorem aIc {txs:List Tx} (h:∀t∈txs,MkOk t) (hl:txs.length≤5):cN txs≤15:=by have:=aF1 h;omega
end Go.Proofs.YtgloknkcfchnlabGreatDoor
namespace Go.K
open Go Go.Proofs.YtgloknkcfchnlabGreatDoor
theorem aCq (l:List En) (h:Int):aP l [] h=if h<0∨h>1000000 then (l,3, -1, -1) else (l,0, -1, -1):=by
 unfold aP
 split<;>rfl
end Go.K
namespace Go.Proofs.YtgloknkcfchnlabGreatDoor
open Go Go.K
end Go.Proofs.YtgloknkcfchnlabGreatDoor
end
namespace Go.K
section
open Go Go.Proofs.YtgloknkcfchnlabGreatDoor
end
end Go.K
section
namespace Go.K
open Go Go.Proofs.YtgloknkcfchnlabGreatDoor
end Go.K
namespace Go.Proofs.YtgloknkcfchnlabGreatDoor
open Go Go.K
theorem aYe (e:En):(Option.map (fun b=>Value.bool (if true then !b else b)) (bM [.s,.i,.i,.s,.i] (bE.f e) (bE.f e)))=some (.bool false):=by
 simp [bM,fV,bE,Pt.cs,Cn.cs]
attribute [local irreducible] aG aK aU KOp.wp K.Spec u32 leS vnS str aN aJ aO aP bH idT aV EtR bO nG
end Go.Proofs.YtgloknkcfchnlabGreatDoor
end
namespace Go.Proofs.YtgloknkcfchnlabGreatDoor
section
open Go Go.K
attribute [local irreducible] aG aK aU KOp.wp K.Spec u32 leS vnS str aN aJ aO aP bH idT aV EtR bO
end
end Go.Proofs.YtgloknkcfchnlabGreatDoor
section
namespace Go.K
open Go Go.Proofs.YtgloknkcfchnlabGreatDoor
theorem aH1 (l:List En) (h:(l.map (·.1)).Nodup):bO l l= []:=by
 unfold bO
 rw [List.filter_eq_nil_iff]
 intro e he
 have:=(cF h).1 he
 simp [this]
theorem aWd {m:List En} {t:Tx} {i:Nat} {h:Int} (hb:¬(0<i∧aO t=true)):cG m t i h=cG m t 0 h:=by
 have:gL m t i h=gL m t 0 h:=by
  unfold gL
  by_cases hg:aO t=true
  ·have hi:i=0:=by
    cases i with
    |zero=>rfl
    |succ n=>exact absurd ⟨Nat.succ_pos n,hg⟩ hb
   rw [hi]
  ·rw [if_neg hg,if_neg hg]
 unfold cG
 rw [this]
theorem aS7 {m:List En} {t:Tx} {i:Nat} {h:Int} (hi:0<i) (hb:aO t=true):(cG m t i h).2.1≠0:=by
 intro h0
 have h1:=(aUf h0).1
 have hc:=uP h1
 unfold gL at h1
 rw [if_pos hb,if_neg (by rw [hc];decide),if_pos (.inl hi)] at h1
 exact absurd h1 (by decide)
theorem aJ7 (m:List En) (t:Tx):aP m [t] 2=if (cG m t 0 2).2.1≠0 then (m,(cG m t 0 2).2.1,0,(cG m t 0 2).2.2) else ((cG m t 0 2).1,0, -1, -1):=by
 unfold aP
 rw [if_neg (by decide)]
 unfold jC
 split
 ·rfl
 ·rfl
theorem aSz (m:List En) (txs:List Tx):aP m txs 2=jC m 2 0 txs m:=by
 unfold aP
 rw [if_neg (by decide)]
end Go.K
namespace Go.Proofs.YtgloknkcfchnlabGreatDoor
open Go Go.K
theorem aQv {w:World} {b mb x:Nat} {m:List En} {t:TypeId} {n:Int} {u:Value} (hS:dD t w b mb m) (h4:At w x (.cells [.int .i64 n,u].toArray T.api_Fault (0,0))) (hu:∃t v,u=.iface t v):x∉ [b,mb]:=by
 obtain ⟨_,_,_,hE⟩:=hS
 obtain ⟨tu,vu,rfl⟩:=hu
 have hcell:=jA (o:=1) h4 rfl
 intro hm
 simp only [List.mem_cons,List.not_mem_nil,or_false] at hm
 rcases hm with hm|hm
 ·have:=aJd hE.1 hm hcell
  simp at this
 ·obtain ⟨es,ck,h3, -⟩:=hE.2.1
  unfold World.cell? at hcell
  unfold At at h3
  rw [hm,h3] at hcell
  simp at hcell
theorem dA.offS {w w':World} {b mb:Nat} {m:List En} {t:TypeId} (hS:dD t w b mb m) (cc:Chg [b,mb] w w'):∀{d:Nat} {v:Value} {c a:Int},dA w d v c a→dA w' d v c a
 |0,_,_,_,h=>h
 |_+1,_,_,_,.inl h=>.inl (dA.offS hS cc h)
 |_+1,_,_,_,.inr ⟨h1,h2,b,u,a',h3,h4,h5⟩=>.inr ⟨h1,h2,b,u,a',h3,h4.chg cc (aQv hS h4 (h5.nil_iff.2 h1)),dA.offS hS cc h5⟩
theorem pP.offS {w w':World} {b mb:Nat} {m:List En} {t:TypeId} (hS:dD t w b mb m) (cc:Chg [b,mb] w w') {v:Value} {c a i:Int} (h:pP w v c a i):pP w' v c a i:=by
 rcases h with h|⟨h1,h|⟨h2,x,u,h3,h4,h5⟩⟩
 ·exact .inl h
 ·exact .inr ⟨h1,.inl h⟩
 ·exact .inr ⟨h1,.inr ⟨h2,x,u,h3,h4.chg cc (aQv hS h4 (h5.nil_iff.2 h1)),dA.offS hS cc h5⟩⟩
attribute [local irreducible] aG aK aU KOp.wp K.Spec EtR
theorem aUp {w:World} {v:Value} {c i:Int} (h0:c≠0) (h:pP w v c 0 i):K.Spec Tryz.prog F.errors_Is [v,.iface T.api_Errno (.int .i64 c)] w fun r w'=>r=.bool true∧w'=w:=by
 rcases h with ⟨h1, -⟩|⟨-,⟨-,h2, -⟩|⟨-,b,u,rfl,h4,h5⟩⟩
 ·exact absurd h1 h0
 ·exact absurd h2 (by decide)
 ·rcases h5 with h5|⟨-, -,b2,u2,a2,rfl,hb2,h6⟩
  ·obtain rfl:=mY h5 h0
   exact zV c b w (jA (o:=1) h4 rfl)
  ·obtain rfl:=mY h6 h0
   exact aIt c b b2 w (jA (o:=1) h4 rfl) (jA (o:=1) hb2 rfl)
def aZc (n:List En) (c:Int) (l1:List En) (f:Value) (w:World):Prop:=l1.length≤200∧(c=0∧f=.nilIface∧l1=n∨c≠0∧∃i,pP w f c 0 i)
attribute [local irreducible] u32 leS vnS str aN aJ aO aP bH idT aV bO cG jC
set_option maxHeartbeats 16000000 in
set_option maxRecDepth 4000 in
theorem aGb {va vz:Value} {ls zs:List BSm} (w:World) (hg:EtR w) (ha:SlR pA [] w va ls) (hz:SlR pA [] w vz zs):K.Spec Tryz.prog F.kedgelaw12_BlockParts [va,vz] w fun r w'=>r=.bool true∧Ext w w':=by
 refine qC rfl ?_
 unfold iP
 refine oy ?_
 repeat (first|refine go1 ?_|refine zg λ_ _=>?_|refine zi λ_ _=>?_)
 refine zC (d:=some 25) rfl (aBg _) ?_
 rintro _ w1 ⟨b,mb,rfl,S1,hb1,hb2,x1⟩
 have hMb:∀y∈ [b,mb],w.heap.size≤y:=fun y hy=>by simp at hy;rcases hy with rfl|rfl;exact hb1;exact hb2
 have hM1:∀y∈ [b,mb],y<w1.heap.size:=fun y hy=>by simp at hy;rcases hy with rfl|rfl;exact S1.lt.1;exact S1.lt.2
 have ha1:SlR pA [b,mb] w1 va ls:=ha.step x1 (by simp) (fun y hy=>.inr (hMb y hy))
 repeat (first|refine go1 ?_|refine zg λ_ _=>?_|refine zi λ_ _=>?_)
 refine zC (d:=some 27) rfl (aAf (M:= [b,mb]) (l:= []) (zs:=ls) 1 _ (SlE.nil _) CG.nil SC.nil ha1 (by simp) (by omega) hM1) ?_
 rintro vf w2 ⟨fs,oF,hfl,hfk,x2⟩
 have hF:SlR txR [b,mb] w2 vf fs:=oF.slB hM1
 have hfsm:∀t∈fs,t.Sm:=fun t ht=>(hfk t ht).sm
 have hfou:=aIc hfk hfl
 repeat (first|refine go1 ?_|refine zg λ_ _=>?_|refine zi λ_ _=>?_)
 refine zC (d:=some 31) rfl (eJ (M:= [b,mb]) (txs:=fs) (l:= []) 1 _ (S1.ext x2) CG.nil SC.nil (by simp) (by simp) (fun y hy=>nLt (hM1 y hy) x2.size) hF hfsm (by simp;omega) (by omega)) ?_
 rintro _ w3 ⟨sv1,mv1,e1,rfl,E3,S3,hA1,hB1,c3⟩
 have x03:Ext w w3:=(Ext.chg (x1.trans x2) c3).mono (fun y hy=>.inr (hMb y hy))
 have s2:=x2.size
 have hM3:∀y∈ [b,mb],y<w3.heap.size:=fun y hy=>nLt (hM1 y hy) (nTr s2 c3.size)
 have hF3:SlR txR [b,mb] w3 vf fs:=hF.step c3 (fun y hy=>.inl hy) (fun y hy=>.inl hy)
 have o12:sv1.oneCell'=true∧mv1.oneCell'=true:=by
  by_cases h0:(aP [] fs 1).2.1=0
  ·obtain ⟨h1,h2, -⟩:=hA1 h0
   obtain ⟨_,_,q⟩:=h1.form
   obtain ⟨_,_,q2⟩:=h2.form
   rw [q,q2];exact ⟨rfl,rfl⟩
  ·obtain ⟨rfl,rfl⟩:=hB1 h0;exact ⟨rfl,rfl⟩
 have ones1:([sv1,mv1]:List Value).all (fun v=>v.oneCell')=true:=by simp [o12.1,o12.2]
 have gm:=vI CG.nil fs 1
 have scm:=vK CG.nil SC.nil fs 1
 have ml:=qR CG.nil fs 1
 repeat (first|refine zE (d':=7) (fun _=>rfl) rfl rfl ones1 (fun b7 w4 x4 a4 (r4:Row w4 ⟨b7,0,none⟩ [sv1,mv1]) hb7=>?_)|refine go1 ?_|refine zg λ_ _=>?_|refine zi λ_ _=>?_)
 have x04:=x03.trans x4
 by_cases h01:(aP [] fs 1).2.1=0
 ·obtain rfl:=E3.nilD.1 h01
  repeat (first|refine go1 ?_|refine zg λ_ _=>?_|refine zi λ_ _=>?_)
  refine zC (d:=some 39) rfl (rD (M:= [b,mb]) (l:= []) (txs:=fs) 1 _ (SlE.nil _) CG.nil SC.nil (hF3.ext x4) hfsm (by simp;omega) (by omega)) ?_
  rintro _ w5 ⟨vl,rfl,hvl,x5⟩
  have x35:Ext w3 w5:=x4.trans x5
  have x05:=x04.trans x5
  have S5:=S3.ext x35
  have hml:(aP [] fs 1).1.length≤15:=by simp at ml;omega
  have hM5:∀y∈ [b,mb],y<w5.heap.size:=fun y hy=>nLt (hM3 y hy) x35.size
  have hz5:SlR pA [b,mb] w5 vz zs:=hz.step x05 (by simp) (fun y hy=>.inr (hMb y hy))
  clear E3 hA1 hB1 x1 x2 x4 x5 a4 r4 ml hF oF hF3 c3 hfk S1 S3 ha1
  generalize (aP [] fs 1).1=m at*
  generalize (aP [] fs 1).2.1=k1 at*
  generalize (aP [] fs 1).2.2.1=k2 at*
  generalize (aP [] fs 1).2.2.2=k3 at*
  repeat (first|refine go1 ?_|refine zg λ_ _=>?_|refine zi λ_ _=>?_)
  refine zC (d:=some 46) rfl (aAf (M:= [b,mb]) (l:=m) (zs:=zs) 2 _ hvl gm scm hz5 (by omega) (by omega) hM5) ?_
  rintro vtx w6 ⟨txs,oT,htl,hmk,x6⟩
  have hT6:SlR txR [b,mb] w6 vtx txs:=oT.slB hM5
  have hsm:∀t∈txs,t.Sm:=fun t ht=>(hmk t ht).sm
  have hou:=aIc hmk htl
  repeat (first|refine go1 ?_|refine zg λ_ _=>?_|refine zi λ_ _=>?_)
  refine zC (d:=some 48) rfl (xR _ (S5.ext x6)) ?_
  rintro _ w7 ⟨b',mb',rfl,C7,hb1',hb2',x7⟩
  have S7:=(S5.ext x6).ext x7
  have hM7:∀y∈ [b,mb],y<w6.heap.size:=fun y hy=>nLt (hM5 y hy) x6.size
  obtain ⟨M,hMdef⟩:∃M,M= [b,mb,b',mb']:=⟨_,rfl⟩
  have hbM:b∈M:=by rw [hMdef];simp
  have hmbM:mb∈M:=by rw [hMdef];simp
  have hb'M:b'∈M:=by rw [hMdef];simp
  have hmb'M:mb'∈M:=by rw [hMdef];simp
  have hMw:∀y∈M,w.heap.size≤y:=fun y hy=>by
   have s05:=x05.size
   have s6:=x6.size
   rw [hMdef] at hy;simp at hy
   rcases hy with rfl|rfl|rfl|rfl
   ·exact hb1
   ·exact hb2
   ·omega
   ·omega
  have hML:∀y∈M,y<w7.heap.size:=fun y hy=>by
   rw [hMdef] at hy;simp at hy
   rcases hy with rfl|rfl|rfl|rfl
   ·exact S7.lt.1
   ·exact S7.lt.2
   ·exact C7.lt.1
   ·exact C7.lt.2
  have n1:b'∉ [b,mb]:=fun h=>by have:=hM7 _ h;omega
  have n2:mb'∉ [b,mb]:=fun h=>by have:=hM7 _ h;omega
  have n3:b∉ [b',mb']:=fun h=>by simp at h n1 n2;rcases h with h|h;exact n1.1 h.symm;exact n2.1 h.symm
  have n4:mb∉ [b',mb']:=fun h=>by simp at h n1 n2;rcases h with h|h;exact n1.2 h.symm;exact n2.2 h.symm
  have hT7:SlR txR M w7 vtx txs:=hT6.step x7 (by simp) (fun y hy=>by
   rw [hMdef] at hy;simp at hy
   rcases hy with rfl|rfl|rfl|rfl
   ·exact .inl (by simp)
   ·exact .inl (by simp)
   ·exact .inr hb1'
   ·exact .inr hb2')
  clear hT6 oT hz5 hvl
  repeat (first|refine go1 ?_|refine zg λ_ _=>?_|refine zi λ_ _=>?_)
  refine zC (d:=some 52) rfl (eJ (M:=M) (txs:=txs) (l:=m) 2 _ S7 gm scm hbM hmbM hML hT7 hsm (by omega) (by omega)) ?_
  rintro _ w8 ⟨sv,mv,e,rfl,E8,S8,hA,hB,c8⟩
  have C8:=C7.chg c8 n1 n2
  have hT8:SlR txR M w8 vtx txs:=hT7.step c8 (fun y hy=>.inl (by simp at hy;rcases hy with rfl|rfl;exact hbM;exact hmbM)) (fun y hy=>.inl hy)
  have x07:Ext w w7:=(x05.trans x6).trans x7
  have x08:Ext w w8:=(Ext.chg x07 c8).mono (fun y hy=>.inr (hMb y hy))
  have hML8:∀y∈M,y<w8.heap.size:=fun y hy=>nLt (hML y hy) c8.size
  have gn:=vI gm txs 2
  have scn:=vK gm scm txs 2
  have nl:=qR gm txs 2
  have o34:sv.oneCell'=true∧mv.oneCell'=true:=by
   by_cases h0:(aP m txs 2).2.1=0
   ·obtain ⟨h1,h2, -⟩:=hA h0
    obtain ⟨_,_,q⟩:=h1.form
    obtain ⟨_,_,q2⟩:=h2.form
    rw [q,q2];exact ⟨rfl,rfl⟩
   ·obtain ⟨rfl,rfl⟩:=hB h0;exact ⟨rfl,rfl⟩
  have ones2:([sv,mv]:List Value).all (fun v=>v.oneCell')=true:=by simp [o34.1,o34.2]
  have hmv0:(aP m txs 2).2.1≠0→mv=.slice none 0 0:=fun h=>(hB h).2
  have hbad:(aP m txs 2).2.1=0→(aP m txs 2).2.2.1= -1:=fun h=>aBs h
  have eR:=aSz m txs
  clear hA hB x6 x7 S7 C7 hT7 S5 c8 x05 x35
  have hou15:cN txs≤15:=hou
  repeat (first|refine zE (d':=15) (fun _=>rfl) rfl rfl ones2 (fun b15 w9 x9 a9 (r9:Row w9 ⟨b15,0,none⟩ [sv,mv]) hb15=>?_)|refine kT (a:=.seq (.reg false (.cons ⟨some 55,_,none⟩ _)) _) (fun (p:List En × Value) w'=>Chg [b',mb'] w9 w'∧dD T.coins_Set w' b' mb' p.1∧aZc (aP m txs 2).1 (aP m txs 2).2.1 p.1 p.2 w') (fun p=> [(5,.pointer (some ⟨b,0,none⟩)),(14,.pointer (some ⟨b',0,none⟩)),(15,.pointer (some ⟨b15,0,none⟩)),(16,e),(17,p.2)]) ?_ ?_|refine go1 ?_|refine zg λ_ _=>?_|refine zi λ_ _=>?_)
  ·have l9:=a9.lt
   have nb15:b15∉M:=fun h=>by have:=hML8 _ h;omega
   have S9:=S8.ext x9
   have C9:=C8.ext x9
   have hT9:=hT8.ext x9
   have E9:=E8.ext x9
   have x09:=x08.trans x9
   have hML9:∀y∈M,y<w9.heap.size:=fun y hy=>nLt (hML8 y hy) x9.size
   clear S8 C8 hT8 E8 x9 x08 a9
   repeat (first|refine zG (d:=some 56) (E:=txR) (M:=M) (l:=txs) rfl hT9 ?_|refine go1 ?_|refine zg λ_ _=>?_|refine zi λ_ _=>?_)
   refine aL (fun (p:Nat × List En) w'=>Chg [b',mb'] w9 w'∧p.1≤txs.length∧dD T.coins_Set w' b' mb' p.2∧tW m 2 txs p.1 p.2∧CG p.2∧SC p.2∧p.2.length≤15+3*p.1) (fun p=> [(5,.pointer (some ⟨b,0,none⟩)),(14,.pointer (some ⟨b',0,none⟩)),(15,.pointer (some ⟨b15,0,none⟩)),(16,e),(17,.nilIface),(55,vtx),(56,.int .i64 (txs.length:Nat)),(57,.int .i64 (p.1:Nat))]) (fun p=>txs.length - p.1) (0,m) ⟨rfl,rfl,rfl,rfl,rfl,rfl,rfl,rfl,trivial⟩ ⟨Chg.refl _ _,by simp,C9,wK,gm,scm,by simp only;omega⟩ ?_
   rintro ⟨i,l1⟩ ρ w10 ⟨c10,hi,C10,hr,g1,sc1,ll⟩
   simp only at hi C10 hr g1 sc1 ll
   dsimp only
   have x010:Ext w w10:=(Ext.chg x09 c10).mono (fun y hy=>.inr (by simp at hy;rcases hy with rfl|rfl;exact hMw _ hb'M;exact hMw _ hmb'M))
   have hT10:SlR txR M w10 vtx txs:=hT9.step c10 (fun y hy=>.inl (by simp at hy;rcases hy with rfl|rfl;exact hb'M;exact hmb'M)) (fun y hy=>.inl hy)
   have hML10:∀y∈M,y<w10.heap.size:=fun y hy=>nLt (hML9 y hy) c10.size
   repeat (first|refine go1 ?_|refine zg λ_ _=>?_|refine zi λ_ _=>?_)
   refine zL (x:=.tmp 58) (p:=((i:Nat):Int)<((txs.length:Nat):Int)) rfl (fun h5=>?_) (fun h5=>?_)
   ·have hil:i<txs.length:=by omega
    have hmt:=hmk _ (gMe hil)
    have hmo:=hmt.outs
    have hbad1:∀h:(cG l1 txs[i] i 2).2.1≠0,aP m txs 2=(m,(cG l1 txs[i] i 2).2.1,((i:Nat):Int),(cG l1 txs[i] i 2).2.2):=fun h=>eR.trans (aBm hil hr h)
    have hnx:=fun h=>wU hil hr h
    have gx:=jY g1 txs[i] i 2
    have scx:=uH g1 sc1 txs[i] i 2
    have lx:=pX g1 txs[i] i 2
    obtain ⟨t,ht⟩:∃t,t=txs[i]:=⟨_,rfl⟩
    rw [←ht] at hmt hmo hbad1 hnx gx scx lx
    repeat (first|(refine aM (d:=some 60) (E:=txR) (M:=M) rfl rfl (n:=i) (l:=txs) hT10 rfl hil (fun ad cs r11 he=>?_);rw [←ht] at he;have ones:=txR.one he;obtain ⟨iv,ov,rfl, -⟩:=id he)|refine uX (d':=19) (e:=18) (fun _=>rfl) (fun _=>rfl) rfl rfl rfl (List.all_eq_true.2 ones) (fun b19 w11 x11 a19 (r19:Row w11 ⟨b19,0,none⟩ (aT t iv ov)) hb19=>?_)|refine kT (a:=.seq (.reg false (.cons ⟨some 62,_,none⟩ _)) _) (fun (_:Unit) w'=>Ext w11 w'∧¬(0<i∧aO t=true)) (fun _=> [(5,.pointer (some ⟨b,0,none⟩)),(14,.pointer (some ⟨b',0,none⟩)),(15,.pointer (some ⟨b15,0,none⟩)),(16,e),(17,.nilIface),(55,vtx),(56,.int .i64 (txs.length:Nat)),(57,.int .i64 (i:Nat)),(19,.pointer (some ⟨b19,0,none⟩))]) ?_ ?_|refine go1 ?_|refine zg λ_ _=>?_|refine zi λ_ _=>?_)
    ·have he11:txR.rel M w11 (aT t iv ov) t:=R.ext he x11
     refine jK (p:=(0:Int)<((i:Nat):Int)) rfl (fun hp=>?_) (fun hp=>?_)
     ·have hpos:0<i:=by omega
      repeat (first|refine go1 ?_|refine zg λ_ _=>?_|refine zi λ_ _=>?_)
      refine zC (d:=some 66) rfl (iO (M:=M) (cs:=aT t iv ov) (t:=t) _ he11 hmt.sm) ?_
      rintro _ w12 ⟨rfl,x12⟩
      cases hgr:aO t with
      |true=>
       have hone:=aS7 (m:=l1) (h:=2) hpos hgr
       have h0:(aP m txs 2).2.1≠0:=by rw [hbad1 hone];exact hone
       obtain ⟨et,eu,rfl⟩:=E9.nilD.2 h0
       repeat (first|refine go1 ?_|refine zg λ_ _=>?_|refine zi λ_ _=>?_)
       refine zC (d:=some 68) rfl (lC _ (hg.ext (x010.trans (x11.trans x12)))) ?_
       rintro _ w13 ⟨rfl,x13⟩
       repeat (first|refine go1 ?_|refine zg λ_ _=>?_|refine zi λ_ _=>?_)
       simp only [rI,aH3,sO]
       exact aB rfl ⟨rfl,(x010.trans (x11.trans x12)).trans x13⟩
      |false=>
       repeat (first|refine go1 ?_|refine zg λ_ _=>?_|refine zi λ_ _=>?_)
       exact ⟨(),⟨rfl,rfl,rfl,rfl,rfl,rfl,rfl,rfl,rfl,trivial⟩,x12,fun h=>by have:=h.2;cases this⟩
     ·repeat (first|refine go1 ?_|refine zg λ_ _=>?_|refine zi λ_ _=>?_)
      exact ⟨(),⟨rfl,rfl,rfl,rfl,rfl,rfl,rfl,rfl,rfl,trivial⟩,Ext.refl _,fun h=>hp (by have:=h.1;omega)⟩
    ·rintro _ ρ2 w12 ⟨x12,hng⟩
     have hs:=aJ7 l1 t
     rw [←aWd hng] at hs
     have r12:=Row.ext x12 r19
     have he12:txR.rel M w12 (aT t iv ov) t:=R.ext (R.ext he x11) x12
     have hML12:∀y∈M,y<w12.heap.size:=fun y hy=>nLt (hML10 y hy) (nTr x11.size x12.size)
     repeat (first|refine zI (d:=some 76) (cs:=aT t iv ov) rfl (fun b76 w13 x13 a13 hb13=>?_)|refine go1 ?_|refine zg λ_ _=>?_|refine zi λ_ _=>?_)
     have x1013:Ext w10 w13:=x11.trans (x12.trans x13)
     have t13:SlR txR M w13 (.slice (some ⟨b76,0,none⟩) 1 1) [t]:=SlR.one1 (E:=txR) a13 (R.ext he12 x13) (fun h=>by have:=hML12 _ h;omega)
     refine zC (d:=some 77) rfl (eJ (b:=b') (mb:=mb') (M:=M) (txs:= [t]) (l:=l1) 2 _ (C10.ext x1013) g1 sc1 hb'M hmb'M (fun y hy=>nLt (hML10 y hy) x1013.size) t13 (by simp;exact hmt.sm) (by simp [cN];omega) (by simp)) ?_
     rintro _ w14 ⟨sv2,mv2,e2,rfl,E14,C14, -, -,c14⟩
     have c914:Chg [b',mb'] w9 w14:=(c10.trans (Chg.trans x1013 c14)).mono (by simp)
     rw [hs] at E14 C14
     by_cases hone:(cG l1 t i 2).2.1=0
     ·rw [if_neg (fun h=>h hone)] at E14 C14
      obtain rfl:=E14.nilD.1 rfl
      repeat (first|refine go1 ?_|refine zg λ_ _=>?_|refine zi λ_ _=>?_)
      exact ⟨(i+1,(cG l1 t i 2).1),⟨rfl,rfl,rfl,rfl,rfl,rfl,rfl,rfl,trivial⟩,⟨c914,by simp only;omega,C14,hnx hone,gx,scx,by simp only;omega⟩,by simp only;omega⟩
     ·rw [if_pos hone] at E14 C14
      simp only at E14 C14
      obtain ⟨et2,eu2,rfl⟩:=E14.nilD.2 hone
      repeat (first|refine go1 ?_|refine zg λ_ _=>?_|refine zi λ_ _=>?_)
      refine ⟨(l1,.iface et2 eu2),⟨rfl,rfl,rfl,rfl,rfl,trivial⟩,c914,C14,by simp only;omega,.inr ⟨?_,(cG l1 t i 2).2.2,?_⟩⟩
      ·rw [hbad1 hone];exact hone
      ·rw [hbad1 hone];exact E14
   ·have hie:txs.length≤i:=by omega
    have hend:=eR.trans (aB2 hie hr)
    repeat (first|refine go1 ?_|refine zg λ_ _=>?_|refine zi λ_ _=>?_)
    refine ⟨(l1,.nilIface),⟨rfl,rfl,rfl,rfl,rfl,trivial⟩,c10,C10,by simp only;omega,.inl ⟨?_,rfl,?_⟩⟩
    ·rw [hend]
    ·rw [hend]
  ·have l9:=a9.lt
   have nb15:b15∉M:=fun h=>by have:=hML8 _ h;omega
   have S9:=S8.ext x9
   have C9:=C8.ext x9
   have hT9:=hT8.ext x9
   have E9:=E8.ext x9
   have x09:=x08.trans x9
   have hML9:∀y∈M,y<w9.heap.size:=fun y hy=>nLt (hML8 y hy) x9.size
   clear S8 C8 hT8 E8 x9 x08 a9
   rintro ⟨l1,fv⟩ ρ w20 ⟨c20,C20,hl1,hP⟩
   simp only at C20 hl1 hP
   dsimp only
   have S20:=S9.chg c20 n3 n4
   have E20:=E9.offS C9 c20
   have r20:=Row.chg c20 r9 (fun h=>nb15 (by simp at h;rcases h with h|h;rw [h];exact hb'M;rw [h];exact hmb'M))
   have x020:Ext w w20:=(Ext.chg x09 c20).mono (fun y hy=>.inr (by simp at hy;rcases hy with rfl|rfl;exact hMw _ hb'M;exact hMw _ hmb'M))
   have hML20:∀y∈M,y<w20.heap.size:=fun y hy=>nLt (hML9 y hy) c20.size
   clear c20 S9 C9 r9 x09 hT9 hML9 l9 x07 hML8 hML eR E9
   have nl:(aP m txs 2).1.length≤200:=by omega
   generalize aP m txs 2=ap at*
   obtain ⟨n,c,at_,in_⟩:=ap
   simp only at S20 E20 hP gn scn nl hmv0 hbad
   by_cases h0:c=0
   ·obtain ⟨rfl,rfl⟩:fv=.nilIface∧l1=n:=by
     rcases hP with ⟨-,h1,h2⟩|⟨h, -⟩
     ·exact ⟨h1,h2⟩
     ·exact absurd h0 h
    obtain rfl:=E20.nilD.1 h0
    repeat (first|refine zg (fun w20b x20b=>?_)|refine go1 ?_|refine zg λ_ _=>?_|refine zi λ_ _=>?_)
    refine zC (d:=some 91) rfl (aB4 (c:=0) (a:= -1) (hg.ext (x020.trans x20b)) (dA.none_ _ _)) ?_
    rintro _ w21 ⟨rfl,x21b⟩
    have x21:=x20b.trans x21b
    repeat (first|refine go1 ?_|refine zg λ_ _=>?_|refine zi λ_ _=>?_)
    refine zC (d:=some 93) rfl (aSh _ _) ?_
    rintro _ w22 ⟨rfl,rfl⟩
    repeat (first|refine go1 ?_|refine zg λ_ _=>?_|refine zi λ_ _=>?_)
    have S21:=S20.ext x21
    have hML21:∀y∈M,y<w22.heap.size:=fun y hy=>nLt (hML20 y hy) x21.size
    refine zC (d:=some 102) rfl (eJ (M:=M) (txs:= []) (l:=l1) 3 _ S21 gn scn hbM hmbM hML21 (SlR.nil _ _) (by simp) (by simp [cN];omega) (by simp)) ?_
    rw [aCq,if_neg (by decide)]
    rintro _ w23 ⟨sv3,mv3,e3,rfl,E23,S23,hA3, -,c23⟩
    obtain rfl:=E23.nilD.1 rfl
    obtain ⟨hsv3,hmv3, -⟩:=hA3 rfl
    simp only at S23 hsv3 hmv3
    rw [aH1 _ gn.nodup] at hsv3 hmv3
    have C23:=(C20.ext x21).chg c23 n1 n2
    have x023:Ext w w23:=(Ext.chg (x020.trans x21) c23).mono (fun y hy=>.inr (hMb y hy))
    have r23:=Row.chg c23 (Row.ext x21 r20) (fun h=>nb15 (by simp at h;rcases h with h|h;rw [h];exact hbM;rw [h];exact hmbM))
    have ones3:([sv3,mv3]:List Value).all (fun v=>v.oneCell')=true:=by
     obtain ⟨_,_,q⟩:=hsv3.form
     obtain ⟨_,_,q2⟩:=hmv3.form
     rw [q,q2];rfl
    clear hA3 E23 c23 r20
    repeat (first|refine zE (d':=20) (fun _=>rfl) rfl rfl ones3 (fun b20 w24 x24 a24 (r24:Row w24 ⟨b20,0,none⟩ [sv3,mv3]) hb20=>?_)|refine go1 ?_|refine zg λ_ _=>?_|refine zi λ_ _=>?_)
    refine zC (d:=some 106) rfl (lL _ (S23.ext x24) (by omega)) ?_
    rintro av w25 ⟨hav, -,x25⟩
    repeat (first|refine go1 ?_|refine zg λ_ _=>?_|refine zi λ_ _=>?_)
    refine zC (d:=some 108) rfl (lL _ ((C23.ext x24).ext x25) (by omega)) ?_
    rintro bv w26 ⟨hbv, -,x26⟩
    have x2426:Ext w24 w26:=x25.trans x26
    have x2326:Ext w23 w26:=x24.trans x2426
    have x026:=x023.trans x2326
    have r2426:=Row.ext x2426 r24
    have r2326:=Row.ext x2326 r23
    have hav26:=hav.ext x26
    have hsv26:=hsv3.ext x2326
    have hmv26:=hmv3.ext x2326
    clear x24 x25 x26 r24 r23 hav hsv3 hmv3 S23 C23 a24
    repeat (first|refine bP (d:=some 114) rfl hmv26 ?_|refine bP (d:=some 120) rfl hsv26 ?_|refine bP (d:=some 128) rfl hav26 ?_|refine bP (d:=some 130) rfl hbv ?_|refine aD (d:=some 131) (.bool false) rfl (congrArg (fun b=>some (Value.bool (!b))) (dTr rfl)) ?_|refine bP (d:=some 145) rfl hav26 ?_|refine go1 ?_|refine zg λ_ _=>?_|refine zi λ_ _=>?_)
    refine aL (fun (q:Nat) w'=>Ext w26 w'∧q≤l1.length) (fun q=> [(16,.nilIface),(22,av),(23,bv),(144,av),(145,.int .i64 (l1.length:Nat)),(146,.int .i64 (q:Nat))]) (fun q=>l1.length - q) 0 ⟨rfl,rfl,rfl,rfl,rfl,rfl,trivial⟩ ⟨Ext.refl _,by simp⟩ ?_
    rintro q ρ w30 ⟨x30,hq⟩
    repeat (first|refine go1 ?_|refine zg λ_ _=>?_|refine zi λ_ _=>?_)
    refine zL (x:=.tmp 147) (p:=((q:Nat):Int)<((l1.length:Nat):Int)) rfl (fun h8=>?_) (fun h8=>?_)
    ·have hql:q<l1.length:=by omega
     repeat (first|refine aQ (d:=some 154) (E:=bE) rfl rfl (n:=q) (l:=l1) (SlE.ext (w:=w26) (by exact fx) hav26) rfl hql (fun ad1 ra=>?_)|refine aQ (d:=some 158) (E:=bE) rfl rfl (n:=q) (l:=l1) (SlE.ext (w:=w26) (by exact fx) hbv) rfl hql (fun ad2 rb=>?_)|refine aD (d:=some 160) (.bool false) rfl (aYe l1[q]) ?_|refine go1 ?_|refine zg λ_ _=>?_|refine zi λ_ _=>?_)
     exact ⟨q+1,⟨rfl,rfl,rfl,rfl,rfl,rfl,trivial⟩,⟨by exact fx,by omega⟩,by omega⟩
    ·repeat (first|refine go1 ?_|refine zg λ_ _=>?_|refine zi λ_ _=>?_)
     refine zC (d:=some 163) rfl (lC _ (hg.ext (x026.trans x30))) ?_
     rintro _ w31 ⟨rfl,x31⟩
     repeat (first|refine go1 ?_|refine zg λ_ _=>?_|refine zi λ_ _=>?_)
     exact aB rfl ⟨rfl,(x026.trans x30).trans x31⟩
   ·rcases hP with ⟨h, -⟩|⟨-,i2,hF⟩
    ·exact absurd h h0
    obtain ⟨ft,fu,rfl⟩:=hF.nilD.2 h0
    obtain ⟨et,eu,rfl⟩:=E20.nilD.2 h0
    obtain rfl:=hmv0 h0
    repeat (first|refine zg (fun w20b x20b=>?_)|refine go1 ?_|refine zg λ_ _=>?_|refine zi λ_ _=>?_)
    refine zC (d:=some 91) rfl (aB4 (hg.ext (x020.trans x20b)) ((E20.ext x20b).errR (fun h=>absurd h h0))) ?_
    rintro _ w21 ⟨rfl,x21b⟩
    have x21:=x20b.trans x21b
    repeat (first|refine go1 ?_|refine zg λ_ _=>?_|refine zi λ_ _=>?_)
    refine zC (d:=some 93) rfl (aUp h0 (hF.ext x21)) ?_
    rintro _ w22 ⟨rfl,rfl⟩
    repeat (first|refine go1 ?_|refine zg λ_ _=>?_|refine zi λ_ _=>?_)
    have S21:=S20.ext x21
    have hML21:∀y∈M,y<w22.heap.size:=fun y hy=>nLt (hML20 y hy) x21.size
    refine zC (d:=some 102) rfl (eJ (M:=M) (txs:= []) (l:=n) 3 _ S21 gn scn hbM hmbM hML21 (SlR.nil _ _) (by simp) (by simp [cN];omega) (by simp)) ?_
    rw [aCq,if_neg (by decide)]
    rintro _ w23 ⟨sv3,mv3,e3,rfl,E23,S23,hA3, -,c23⟩
    obtain rfl:=E23.nilD.1 rfl
    obtain ⟨hsv3,hmv3, -⟩:=hA3 rfl
    simp only at S23 hsv3 hmv3
    rw [aH1 _ gn.nodup] at hsv3 hmv3
    have C23:=(C20.ext x21).chg c23 n1 n2
    have x023:Ext w w23:=(Ext.chg (x020.trans x21) c23).mono (fun y hy=>.inr (hMb y hy))
    have r23:=Row.chg c23 (Row.ext x21 r20) (fun h=>nb15 (by simp at h;rcases h with h|h;rw [h];exact hbM;rw [h];exact hmbM))
    have ones3:([sv3,mv3]:List Value).all (fun v=>v.oneCell')=true:=by
     obtain ⟨_,_,q⟩:=hsv3.form
     obtain ⟨_,_,q2⟩:=hmv3.form
     rw [q,q2];rfl
    clear hA3 E23 c23 r20
    repeat (first|refine zE (d':=20) (fun _=>rfl) rfl rfl ones3 (fun b20 w24 x24 a24 (r24:Row w24 ⟨b20,0,none⟩ [sv3,mv3]) hb20=>?_)|refine go1 ?_|refine zg λ_ _=>?_|refine zi λ_ _=>?_)
    refine zC (d:=some 106) rfl (lL _ (S23.ext x24) (by omega)) ?_
    rintro av w25 ⟨hav, -,x25⟩
    repeat (first|refine go1 ?_|refine zg λ_ _=>?_|refine zi λ_ _=>?_)
    refine zC (d:=some 108) rfl (lL _ ((C23.ext x24).ext x25) (by omega)) ?_
    rintro bv w26 ⟨hbv, -,x26⟩
    have x2426:Ext w24 w26:=x25.trans x26
    have x2326:Ext w23 w26:=x24.trans x2426
    have x026:=x023.trans x2326
    have r2426:=Row.ext x2426 r24
    have r2326:=Row.ext x2326 r23
    have hav26:=hav.ext x26
    have hsv26:=hsv3.ext x2326
    have hmv26:=hmv3.ext x2326
    clear x24 x25 x26 r24 r23 hav hsv3 hmv3 S23 C23 a24
    repeat (first|refine bP (d:=some 114) rfl hmv26 ?_|refine bP (d:=some 120) rfl hsv26 ?_|refine bP (d:=some 145) rfl hav26 ?_|refine go1 ?_|refine zg λ_ _=>?_|refine zi λ_ _=>?_)
    refine aL (fun (q:Nat) w'=>Ext w26 w'∧q≤n.length) (fun q=> [(16,.iface et eu),(144,av),(145,.int .i64 (n.length:Nat)),(146,.int .i64 (q:Nat))]) (fun q=>n.length - q) 0 ⟨rfl,rfl,rfl,rfl,trivial⟩ ⟨Ext.refl _,by simp⟩ ?_
    rintro q ρ w30 ⟨x30,hq⟩
    repeat (first|refine go1 ?_|refine zg λ_ _=>?_|refine zi λ_ _=>?_)
    refine zL (x:=.tmp 147) (p:=((q:Nat):Int)<((n.length:Nat):Int)) rfl (fun h8=>?_) (fun h8=>?_)
    ·have hql:q<n.length:=by omega
     repeat (first|refine go1 ?_|refine zg λ_ _=>?_|refine zi λ_ _=>?_)
     exact ⟨q+1,⟨rfl,rfl,rfl,rfl,trivial⟩,⟨by exact fx,by omega⟩,by omega⟩
    ·repeat (first|refine go1 ?_|refine zg λ_ _=>?_|refine zi λ_ _=>?_)
     refine zC (d:=some 163) rfl (lC _ (hg.ext (x026.trans x30))) ?_
     rintro _ w31 ⟨rfl,x31⟩
     repeat (first|refine go1 ?_|refine zg λ_ _=>?_|refine zi λ_ _=>?_)
     exact aB rfl ⟨rfl,(x026.trans x30).trans x31⟩
 ·obtain ⟨et,eu,rfl⟩:=E3.nilD.2 h01
  repeat (first|refine go1 ?_|refine zg λ_ _=>?_|refine zi λ_ _=>?_)
  refine zC (d:=some 36) rfl (lC _ (hg.ext x04)) ?_
  rintro _ w10 ⟨rfl,x10⟩
  repeat (first|refine go1 ?_|refine zg λ_ _=>?_|refine zi λ_ _=>?_)
  exact aB rfl ⟨rfl,x04.trans x10⟩
end Go.Proofs.YtgloknkcfchnlabGreatDoor
end
