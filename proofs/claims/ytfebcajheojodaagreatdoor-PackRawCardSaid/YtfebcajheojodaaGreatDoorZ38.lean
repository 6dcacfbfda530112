/- Transactions that come in, for laws of blocks. The walk of P -/
import Derived.Test.YtfebcajheojodaaGreatDoorZ36
set_option linter.unusedVariables false
set_option linter.unusedSimpArgs false
namespace Go.Proofs.YtfebcajheojodaaGreatDoor
section
open Go Go.K Go.ChangeShapes Go.WideShapes Go.ChangeAt Go.RowKit
set_option maxRecDepth 100000
theorem bPg:Tryz.prog.cellsOf 85=4:=by kernel_rfl
theorem bMr:Tryz.prog.cellsOf 87=2:=by kernel_rfl
theorem bP3:Tryz.prog.cellsOf 26=4:=by kernel_rfl
theorem bOg:Tryz.prog.cellsOf 23=1:=by kernel_rfl
theorem bNk:Tryz.prog.cellsOf 24=1:=by kernel_rfl
theorem bD1:Tryz.prog.cellsOf 39=1:=by kernel_rfl
theorem bDu {W:World} {c:List Value} (h:Reads Tryz.prog W 85 c):∃x:TIn,inR.rel [] W c x∧x.wit.length≤9223372036854775807:=by
 obtain ⟨h1,h2⟩:=kN Tryz.underlying85 h
 have l:c.length=4:=h1.trans bPg
 match c,l with
 | [c0,c1,c2,c3],_=>
  have g0:=h2 _ (List.mem_of_getElem? (i:=0) rfl)
  have g1:=h2 _ (List.mem_of_getElem? (i:=1) rfl)
  have g2:=h2 _ (List.mem_of_getElem? (i:=2) rfl)
  obtain ⟨p,e0,hp⟩:=aYn g0
  obtain ⟨q,e1,hq⟩:=aD4 g1
  simp only [bD1,List.drop_zero,List.drop_succ_cons,List.take_succ_cons,List.take_zero] at g2
  obtain ⟨wl,hw,hwl⟩:=sI lL Tryz.underlying39 (by kernel_rfl) (fun c hc=>by
   obtain ⟨s,e,_⟩:=zY Tryz.underlying9 hc
   exact ⟨s,by subst e;rfl⟩) g2
  simp only [bDe,bH6,List.drop_zero,List.drop_succ_cons,List.take_succ_cons,List.take_zero,List.cons.injEq,and_true] at e0 e1
  refine ⟨⟨p,q,wl⟩,⟨c3,?_,hw,hp,hq⟩,hwl⟩
  have e:p.cs= [.string p.s,.int .u32 p.i]:=rfl
  rw [e] at e0
  simp only [List.cons.injEq,and_true] at e0
  rw [e0.1,e0.2,e1];rfl
theorem bD3 {W:World} {c:List Value} (h:Reads Tryz.prog W 87 c):∃y:TOut,eX.rel [] W c y:=by
 obtain ⟨h1,h2⟩:=kN Tryz.underlying87 h
 have l:c.length=2:=h1.trans bMr
 match c,l with
 | [c0,c1],_=>
  have g0:=h2 _ (List.mem_of_getElem? (i:=0) rfl)
  have g1:=h2 _ (List.mem_of_getElem? (i:=1) rfl)
  obtain ⟨v,e0,hv⟩:=aK3 g0
  obtain ⟨s,e1,_⟩:=zY Tryz.underlying9 g1
  simp only [aX2,bMp,List.drop_zero,List.drop_succ_cons,List.take_succ_cons,List.take_zero,List.cons.injEq,and_true] at e0 e1
  exact ⟨⟨v,s⟩,by rw [e0,e1];rfl,hv⟩
theorem aVw {W:World} {c:List Value} (h:Reads Tryz.prog W 26 c):∃t:Tx,txR.rel [] W c t∧t.Raw:=by
 obtain ⟨h1,h2⟩:=kN Tryz.underlying26 h
 have l:c.length=4:=h1.trans bP3
 match c,l with
 | [c0,c1,c2,c3],_=>
  have g0:=h2 _ (List.mem_of_getElem? (i:=0) rfl)
  have g1:=h2 _ (List.mem_of_getElem? (i:=1) rfl)
  have g2:=h2 _ (List.mem_of_getElem? (i:=2) rfl)
  have g3:=h2 _ (List.mem_of_getElem? (i:=3) rfl)
  obtain ⟨v,e0,hv⟩:=aD4 g0
  obtain ⟨k,e3,hk⟩:=aD4 g3
  simp only [bOg,bNk,List.drop_zero,List.drop_succ_cons,List.take_succ_cons,List.take_zero] at g1 g2
  obtain ⟨ins,hi,hil⟩:=sI (inR.and fun x=>x.wit.length≤9223372036854775807) Tryz.underlying23 bPg (fun c hc=>bDu hc) g1
  obtain ⟨outs,ho,hol⟩:=sI eX Tryz.underlying24 bMr (fun c hc=>bD3 hc) g2
  simp only [bH6,List.drop_zero,List.drop_succ_cons,List.take_succ_cons,List.take_zero,List.cons.injEq,and_true] at e0 e3
  obtain ⟨hi1,hi2⟩:=SlR.both hi
  exact ⟨⟨v,ins,outs,k⟩,⟨c1,c2,by rw [e0,e3];rfl,hi1,ho,hv,hk⟩,hil,hol,hi2⟩
end
section
open Go Go.K
def pairT:R (Tx × Tx) where
 k:=8
 pos:=by decide
 ag:=true
 rel:=fun M w cs p=>∃c1 c2,cs=c1++c2∧txR.rel M w c1 p.1∧txR.rel M w c2 p.2
 len:=fun ⟨c1,c2,h,h1,h2⟩=>by subst h;rw [List.length_append,txR.len h1,txR.len h2];rfl
 one:=fun ⟨c1,c2,h,h1,h2⟩ v hv=>by
  subst h
  rcases List.mem_append.1 hv with hv|hv
  ·exact txR.one h1 v hv
  ·exact txR.one h2 v hv
 step:=fun ⟨c1,c2,h,h1,h2⟩ c hL hM=>⟨c1,c2,h,txR.step h1 c hL hM,txR.step h2 c hL hM⟩
def zG1:PSm:=⟨[0,1],1,0,0,0,false,0⟩
def zG2:PSm:=⟨[0],1,900,0,0,false,0⟩
theorem bCx {t:Tx} (h:t.Cut 4):t.Sm:=⟨by have:=h.ins;omega,by have:=h.outs;omega,fun x hx=>by have:=h.wit x hx;omega⟩
theorem aSu {a b:Tx} (ha:a.Sm) (hb:b.Sm) (h4:a.ins.length≤4) (h5:b.ins.length≤4):aG a=0→aG b=0→aR a+aR b≤1000000:=fun h1 h2=>by
 have:=xQ (bI ha h1) h4
 have:=xQ (bI hb h2) h5
 omega
attribute [local irreducible] aO aU bQ KOp.wp K.Spec u32 leS vnS str aV cU cD idT aR aG aX idN bD cF bT bH cA cO aZ bA aM iC dT pD lH bC evL inS inB iG fH dN fY gE gP eQ cH dF eY fL cB bS aY bU eO eD kD dA bM iH dI bV aUw aEw EtR bB eM iA fB idS bZ tD aBi
theorem bG3 {cs:List Value} {t:Tx} (w0 w:World) (x:Ext w0 w) (ht:txR.rel [] w0 cs t) (hr:t.Raw):
  K.Spec Tryz.prog F.kedgeref05_Cut [.agg cs.toArray,.int .i64 4] w fun r w'=>∃cs' t',r=.agg cs'.toArray∧txR.rel (frB [] w0.heap.size w.heap.size) w' cs' t'∧t'.Cut 4∧Ext w w':=by
 have hm:∀y∈frB [] w0.heap.size w.heap.size,y∈([]:List Nat)∨w0.heap.size≤y:=fun y hy=>by
  rcases aHa.1 hy with h|h
  ·exact .inl h
  ·exact .inr h.1
 have hlt:∀y∈frB [] w0.heap.size w.heap.size,y<w.heap.size:=fun y hy=>by
  rcases aHa.1 hy with h|h
  ·cases h
  ·exact h.2
 refine jH (bHf (M:=frB [] w0.heap.size w.heap.size) (cs:=cs) (t:=t) 4 w (R.step txR ht x (by simp) hm) hr (by decide) hlt) ?_
 rintro r w' ⟨cs',t',h1,h2,h3,h4⟩
 exact ⟨cs',t',h1,h2.rel hlt,h3,h4⟩
set_option maxHeartbeats 16000000 in
set_option maxRecDepth 4000 in
theorem aYc {ca cb:List Value} {ta tb:Tx} {y0 y1:Int} (w:World) (hg:EtR w) (hta:txR.rel [] w ca ta) (hra:ta.Raw) (htb:txR.rel [] w cb tb) (hrb:tb.Raw):K.Spec Tryz.prog F.kedgelaw18_PackRaw [.agg ca.toArray,.agg cb.toArray,.agg #[.int .i64 y0,.int .i64 y1]] w fun r w'=>r=.bool true∧Ext w w':=by
 obtain ⟨iva,ova,rfl, -⟩:=id hta
 obtain ⟨ivb,ovb,rfl, -⟩:=id htb
 refine aBv rfl ?_
 unfold qK
 refine oy ?_
 repeat (first|refine zD (d:=some 3) (cs:=aK ta iva ova) rfl rfl (fun b3 w1 x1 a3 (r3:Row w1 ⟨b3,0,none⟩ (aK ta iva ova)) hb3=>?_)|refine zD (d:=some 4) (cs:=aK tb ivb ovb) rfl rfl (fun b4 w2 x2 a4 (r4:Row w2 ⟨b4,0,none⟩ (aK tb ivb ovb)) hb4=>?_)|refine zD (d:=some 5) (cs:= [.int .i64 y0,.int .i64 y1]) rfl rfl (fun b5 w3 x3 a5 (r5:Row w3 ⟨b5,0,none⟩ [.int .i64 y0,.int .i64 y1]) hb5=>?_)|refine zI (d:=some 21) (cs:= [.int .u16 300,.int .u16 600]) rfl (fun bz w5 x5 az hbz=>?_)|refine go1 ?_|refine zg λ_ _=>?_|refine zi λ_ _=>?_)
 refine zC (d:=some 22) rfl (aA1 (vals:= [300,600]) _ (bC4 (E:=aVn) (M:= []) (l:= [300,600]) [⟨[.int .u16 300],rfl,by intro v hv;simp at hv;subst hv;rfl⟩,⟨[.int .u16 600],rfl,by intro v hv;simp at hv;subst hv;rfl⟩] az rfl (.cons ⟨rfl,by decide,by decide⟩ (.cons ⟨rfl,by decide,by decide⟩ .nil)) (by simp) rfl) (by intro a ha;simp at ha;rcases ha with rfl|rfl<;>decide)) ?_
 rintro vV w6 ⟨hv6,hb6,x6⟩
 have hcV:CoinsOk (iH [300,600] (min [(300:Int),600].length 8)) 8:=(yW (vals:= [300,600]) (by intro a ha;simp at ha;rcases ha with rfl|rfl<;>decide) _).more (by decide)
 generalize iH [300,600] (min [(300:Int),600].length 8)=V at hv6 hcV
 have x36:Ext w3 w6:=x5.trans x6
 have r36:Row w6 ⟨b3,0,none⟩ (aK ta iva ova):=Row.ext (x2.trans (x3.trans x36)) r3
 have r46:Row w6 ⟨b4,0,none⟩ (aK tb ivb ovb):=Row.ext (x3.trans x36) r4
 have r56:Row w6 ⟨b5,0,none⟩ [.int .i64 y0,.int .i64 y1]:=Row.ext x36 r5
 have x06:Ext w w6:=x1.trans (x2.trans (x3.trans x36))
 have hta6:=R.ext hta x06
 have htb6:=R.ext htb x06
 have hVi:∀e∈V,dV e.1.i:=fun e he=>by rw [(hcV.each e he).2.1];exact aN1
 have hVs:∀e∈V,e.2.s.size≤1000000:=fun e he=>by rw [(hcV.each e he).2.2.2.2.1];decide
 have hVp:∀e∈V,0≤e.2.v∧e.2.v≤655350:=fun e he=>⟨(hcV.each e he).2.2.1,(hcV.each e he).2.2.2.1⟩
 have hVk:=hcV.nodup
 have hVl:V.length≤1000:=by have:=hcV.len;omega
 clear x1 x2 x3 x36 x5 x6 a3 a4 a5 az r3 r4 r5 hb6 hb3 hb4 hb5 hbz
 repeat (refine go1 ?_)
 first|refine zg (fun w7 x7=>?_)|(refine go1 ?_;refine zg (fun w7 x7=>?_))|(refine zi (fun w7 x7=>?_))
 refine jA (b:=.cons ⟨none,.storeN _ _ _,_⟩ _) (fun (p:(Nat × Nat) × (List Value × List Value) × (Tx × Tx)) w'=>Ext w6 w'∧At w' p.1.1 (.cells zTx.toArray T.api_Tx (0,0))∧At w' p.1.2 (.cells zTx.toArray T.api_Tx (0,0))∧p.1.1≠p.1.2∧w6.heap.size≤p.1.1∧w6.heap.size≤p.1.2∧txR.rel [p.1.1,p.1.2] w' p.2.1.1 p.2.2.1∧txR.rel [p.1.1,p.1.2] w' p.2.1.2 p.2.2.2∧p.2.2.1.Cut 4∧p.2.2.2.Cut 4) (fun p=> [(5,.pointer (some ⟨b5,0,none⟩)),(7,vV),(8,.pointer (some ⟨p.1.1,0,none⟩)),(9,.pointer (some ⟨p.1.2,0,none⟩)),(24,.agg p.2.1.1.toArray),(26,.agg p.2.1.2.toArray)]) ?_ ?_
 ·repeat' (first|refine zB ?_ ?_|(refine zC (d:=some 24) rfl (bG3 (cs:=aK ta iva ova) (t:=ta) w6 _ (by exact fx) hta6 hra) ?_;rintro _ w24 ⟨csa,a,rfl,t24,hca,x24⟩)|(refine zC (d:=some 26) rfl (bG3 (cs:=aK tb ivb ovb) (t:=tb) w6 _ (by exact fx) htb6 hrb) ?_;rintro _ w26 ⟨csb,b,rfl,t26,hcb,x26⟩)|refine zH (d:=some 8) (fun b8 w8 x8 a8 hb8=>?_)|refine zH (d:=some 9) (fun b9 w9 x9 a9 hb9=>?_)|(exact ⟨((b8,b9),(csa,csb),(a,b)),⟨rfl,rfl,rfl,rfl,rfl,rfl,trivial⟩,by exact fx,At.ext (by exact fx) a8,At.ext (by exact fx) a9,(by have q1:=x24.size;have q2:=x26.size;have q3:=x8.size;have q4:=x9.size;have q5:=a8.lt;have q6:=a9.lt;have q7:=x7.size;show b8≠b9;omega),(by have q1:=x24.size;have q2:=x26.size;have q3:=x8.size;have q4:=x9.size;have q5:=a8.lt;have q6:=a9.lt;have q7:=x7.size;show w6.heap.size≤b8;omega),(by have q1:=x24.size;have q2:=x26.size;have q3:=x8.size;have q4:=x9.size;have q5:=a8.lt;have q6:=a9.lt;have q7:=x7.size;show w6.heap.size≤b9;omega),R.step txR t24 (show Ext w24 _ by exact fx) (by simp) (fun y hy=>by simp only [List.mem_cons,List.not_mem_nil,or_false] at hy;rcases hy with rfl|rfl;exact wE (by have q1:=x24.size;have q2:=x26.size;have q3:=x8.size;have q4:=x9.size;have q5:=a8.lt;have q6:=a9.lt;have q7:=x7.size;omega);exact wE (by have q1:=x24.size;have q2:=x26.size;have q3:=x8.size;have q4:=x9.size;have q5:=a8.lt;have q6:=a9.lt;have q7:=x7.size;omega)),R.step txR t26 (show Ext w26 _ by exact fx) (by simp) (fun y hy=>by simp only [List.mem_cons,List.not_mem_nil,or_false] at hy;rcases hy with rfl|rfl;exact wE (by have q1:=x24.size;have q2:=x26.size;have q3:=x8.size;have q4:=x9.size;have q5:=a8.lt;have q6:=a9.lt;have q7:=x7.size;omega);exact wE (by have q1:=x24.size;have q2:=x26.size;have q3:=x8.size;have q4:=x9.size;have q5:=a8.lt;have q6:=a9.lt;have q7:=x7.size;omega)),hca,hcb⟩)|refine go1 ?_|refine zg λ_ _=>?_|refine zi λ_ _=>?_)
 rintro ⟨⟨b8,b9⟩,⟨csa,csb⟩,⟨a,b⟩⟩ ρ11 w11 ⟨x11,aA,aB,hab,hba,hbb,tA,tB,hca,hcb⟩
 simp only at aA aB hab hba hbb tA tB hca hcb
 try dsimp only
 obtain ⟨iv,ov,rfl, -⟩:=id tA
 obtain ⟨iv2,ov2,rfl, -⟩:=id tB
 refine cQ (b:=b8) (cur:=zTx) (vs:=aK a iv ov) rfl rfl rfl (txR.one tA) aA rfl (fun w12 c12 a12=>?_)
 refine cQ (b:=b9) (cur:=zTx) (vs:=aK b iv2 ov2) rfl rfl rfl (txR.one tB) (At.chg c12 aB (by simpa using Ne.symm hab)) rfl (fun w13 c13 a13=>?_)
 have x612:Ext w6 w12:=(Ext.chg x11 c12).mono (by intro y hy;simp at hy;right;omega)
 have x613:Ext w6 w13:=(Ext.chg x612 c13).mono (by intro y hy;simp at hy;right;omega)
 have aA13:=At.chg c13 a12 (by simpa using hab)
 have tA13:txR.rel [b8,b9] w13 (aK a iv ov) a:=R.step txR (R.step txR tA c12 (by intro y hy;simp at hy;subst hy;exact .inl (by simp)) (fun _ h=>.inl h)) c13 (by intro y hy;simp at hy;subst hy;exact .inl (by simp)) (fun _ h=>.inl h)
 have tB13:txR.rel [b8,b9] w13 (aK b iv2 ov2) b:=R.step txR (R.step txR tB c12 (by intro y hy;simp at hy;subst hy;exact .inl (by simp)) (fun _ h=>.inl h)) c13 (by intro y hy;simp at hy;subst hy;exact .inl (by simp)) (fun _ h=>.inl h)
 have lb8:=aA13.lt
 have lb9:=a13.lt
 have r813:=Row.of_at aA13
 have r913:=Row.of_at a13
 have s613:=x613.size
 have hv13:=SlE.ext x613 hv6
 have hsa:=bCx hca
 have hsb:=bCx hcb
 have hN2:∀y∈ [b8,b9],y<w13.heap.size:=fun y hy=>by simp at hy;rcases hy with rfl|rfl<;>assumption
 clear aA aB tA tB c12 c13 a12 x11 x612 x7 aA13 a13 hta6 htb6 r36 r46
 repeat (first|refine zI (d:=some 29) (cs:= [.int .u8 0,.int .u8 1]) rfl (fun bz w14 x14 az hbz=>?_)|refine bL (d:=some 30) (cs:=jC zG1 (.slice (some ⟨bz,0,none⟩) 2 2)) rfl ?_|refine zI (d:=some 31) (cs:= [.int .u8 0]) rfl (fun by2 w15 x15 ay hby=>?_)|refine bL (d:=some 32) (cs:=jC zG2 (.slice (some ⟨by2,0,none⟩) 1 1)) rfl ?_|refine go1 ?_|refine zg λ_ _=>?_|refine zi λ_ _=>?_)
 refine zC (d:=some 33) rfl (aQe (N:= [b8,b9]) (V:=V) (a:=zG1) (b:=zG2) (B:=655350) _ (SlE.ext (x14.trans x15) hv13) ⟨_,rfl,SlE.toR (F:=u8E) (SlE.new (E:=u8E) (l:= [0,1]) (At.ext x15 az) rfl (Nat.le_refl _)) (by intro b' hb' hm;simp [aP] at hb';subst hb';have:=hN2 _ hm;omega),by decide,by decide⟩ ⟨_,rfl,SlE.toR (F:=u8E) (SlE.new (E:=u8E) (l:= [0]) ay rfl (Nat.le_refl _)) (by intro b' hb' hm;simp [aP] at hb';subst hb';have:=hN2 _ hm;have:=x14.size;omega),by decide,by decide⟩ (by omega) hVp (by decide) hVi (fun y hy=>nLt (hN2 y hy) (x14.trans x15).size)) ?_
 rintro _ w16 ⟨ts,us,rfl,t16,u16,x16⟩
 have x1316:Ext w13 w16:=(x14.trans x15).trans x16
 have hsg:=xL V zG1
 have hig:=sJ V zG1
 have hsc:=xL (tD V (bM V zG1)) zG2
 have hic:=sJ (tD V (bM V zG1)) zG2
 generalize bM (tD V (bM V zG1)) zG2=ch at*
 generalize bM V zG1=go at*
 obtain ⟨iv3,ov3,rfl, -⟩:=id t16
 obtain ⟨iv4,ov4,rfl, -⟩:=id u16
 have s1316:=x1316.size
 clear x14 x15 x16 az ay
 repeat (first|refine zH (d:=some 10) (fun b10 w17 x17 a17 hb10=>?_)|refine zH (d:=some 11) (fun b11 w18 x18 a18 hb11=>?_)|refine go1 ?_|refine zg λ_ _=>?_|refine zi λ_ _=>?_)
 have l17:=a17.lt
 have l18:=a18.lt
 have s17:=x17.size
 have s18:=x18.size
 have h1011:b10≠b11:=by omega
 refine cQ (b:=b10) (cur:=zTx) (vs:=aK go iv3 ov3) rfl rfl rfl (txR.one t16) (At.ext x18 a17) rfl (fun w19 c19 a19=>?_)
 refine cQ (b:=b11) (cur:=zTx) (vs:=aK ch iv4 ov4) rfl rfl rfl (txR.one u16) (At.chg c19 a18 (by simpa using Ne.symm h1011)) rfl (fun w20 c20 a20=>?_)
 have hm4:∀y∈ [b8,b9,b10,b11],y∈ [b8,b9]∨w16.heap.size≤y:=fun y hy=>by
  simp only [List.mem_cons,List.not_mem_nil,or_false] at hy
  rcases hy with rfl|rfl|rfl|rfl
  ·exact .inl (by simp)
  ·exact .inl (by simp)
  ·exact .inr hb10
  ·exact .inr (by omega)
 have st4:∀{cs:List Value} {t:Tx},txR.rel [b8,b9] w16 cs t→txR.rel [b8,b9,b10,b11] w20 cs t:=fun h=>
  R.step txR (R.step txR (R.step txR h (x17.trans x18) (by simp) hm4) c19 (by intro y hy;simp at hy;subst hy;exact .inl (by simp)) (fun _ h=>.inl h)) c20 (by intro y hy;simp at hy;subst hy;exact .inl (by simp)) (fun _ h=>.inl h)
 have tA20:=st4 (R.ext tA13 x1316)
 have tB20:=st4 (R.ext tB13 x1316)
 have tG20:=st4 t16
 have tC20:=st4 u16
 have x620a:Ext w6 w19:=(Ext.chg (x613.trans (x1316.trans (x17.trans x18))) c19).mono (by intro y hy;simp at hy;right;omega)
 have x620:Ext w6 w20:=(Ext.chg x620a c20).mono (by intro y hy;simp at hy;right;omega)
 have x1319:Ext w13 w19:=(Ext.chg (x1316.trans (x17.trans x18)) c19).mono (by intro y hy;simp at hy;right;omega)
 have x1320:Ext w13 w20:=(Ext.chg x1319 c20).mono (by intro y hy;simp at hy;right;omega)
 have r820:=Row.ext x1320 r813
 have r920:=Row.ext x1320 r913
 have r1020:Row w20 ⟨b10,0,none⟩ (aK go iv3 ov3):=Row.chg c20 (Row.of_at a19) (by simpa using h1011)
 have r1120:Row w20 ⟨b11,0,none⟩ (aK ch iv4 ov4):=Row.of_at a20
 have r520:=Row.ext x620 r56
 have hv20:=SlE.ext x620 hv6
 have x020:=x06.trans x620
 have l420:∀y∈ [b8,b9,b10,b11],y<w20.heap.size:=fun y hy=>by
  have:=x1320.size
  have:=c19.size
  have:=c20.size
  simp only [List.mem_cons,List.not_mem_nil,or_false] at hy
  rcases hy with rfl|rfl|rfl|rfl<;>omega
 clear x1319 x17 x18 c19 c20 a17 a18 a19 a20 x620a x1320 r813 r913 t16 u16 tA13 tB13 st4 x1316 x613 hv13 hv6 x06 r56
 repeat (first|refine bL (d:=some 38) (cs:=aK a iv ov++aK b iv2 ov2) rfl ?_|refine bL (d:=some 41) (cs:=aK go iv3 ov3++aK b iv2 ov2) rfl ?_|refine bL (d:=some 44) (cs:=aK a iv ov++aK ch iv4 ov4) rfl ?_|refine bL (d:=some 47) (cs:=aK go iv3 ov3++aK ch iv4 ov4) rfl ?_|refine zI (d:=some 48) (cs:=(aK a iv ov++aK b iv2 ov2)++(aK go iv3 ov3++aK b iv2 ov2)++(aK a iv ov++aK ch iv4 ov4)++(aK go iv3 ov3++aK ch iv4 ov4)) rfl (fun b48 w21 x21 a21 hb48=>?_)|refine go1 ?_|refine zg λ_ _=>?_|refine zi λ_ _=>?_)
 have hls:SlR pairT [] w21 (.slice (some ⟨b48,0,none⟩) 4 4) [(a,b),(go,b),(a,ch),(go,ch)]:=by
  have f1:pairT.rel [b8,b9,b10,b11] w20 (aK a iv ov++aK b iv2 ov2) (a,b):=⟨_,_,rfl,tA20,tB20⟩
  have f2:pairT.rel [b8,b9,b10,b11] w20 (aK go iv3 ov3++aK b iv2 ov2) (go,b):=⟨_,_,rfl,tG20,tB20⟩
  have f3:pairT.rel [b8,b9,b10,b11] w20 (aK a iv ov++aK ch iv4 ov4) (a,ch):=⟨_,_,rfl,tA20,tC20⟩
  have f4:pairT.rel [b8,b9,b10,b11] w20 (aK go iv3 ov3++aK ch iv4 ov4) (go,ch):=⟨_,_,rfl,tG20,tC20⟩
  have st:∀{cs:List Value} {p:Tx × Tx},pairT.rel [b8,b9,b10,b11] w20 cs p→pairT.rel [b48] w21 cs p:=fun h=>R.step pairT h x21 (by simp) (fun y hy=>.inr (by simp at hy;subst hy;exact hb48))
  exact bC4 (E:=pairT) (M:= []) [⟨_,rfl,pairT.one f1⟩,⟨_,rfl,pairT.one f2⟩,⟨_,rfl,pairT.one f3⟩,⟨_,rfl,pairT.one f4⟩] a21 rfl (.cons (st f1) (.cons (st f2) (.cons (st f3) (.cons (st f4) .nil)))) (by simp) rfl
 have hL4:∀p∈ [(a,b),(go,b),(a,ch),(go,ch)],(p.1.Sm∧p.1.ins.length≤4)∧p.2.Sm∧p.2.ins.length≤4:=fun p hp=>by
  have i1:=hca.ins
  have i2:=hcb.ins
  simp only [List.mem_cons,List.not_mem_nil,or_false] at hp
  rcases hp with rfl|rfl|rfl|rfl
  ·exact ⟨⟨hsa,i1⟩,hsb,i2⟩
  ·exact ⟨⟨hsg,hig⟩,hsb,i2⟩
  ·exact ⟨⟨hsa,i1⟩,hsc,hic⟩
  ·exact ⟨⟨hsg,hig⟩,hsc,hic⟩
 generalize hL: [(a,b),(go,b),(a,ch),(go,ch)]=L at hls hL4
 have hLl:L.length=4:=by rw [←hL];rfl
 have x021:=x020.trans x21
 have r521:=Row.ext x21 r520
 have hv21:=SlE.ext x21 hv20
 clear x21 r520 hv20 tA20 tB20 tG20 tC20 r820 r920 r1020 r1120 a21 hb48 x620 x020 hm4 l420 hN2 s613 s1316 hb10 hb11 l17 l18 s17 s18
 refine aQ (fun (i:Nat) w'=>Ext w21 w'∧i≤4) (fun i=> [(5,.pointer (some ⟨b5,0,none⟩)),(7,vV),(48,.slice (some ⟨b48,0,none⟩) 4 4),(49,.int .i64 4),(50,.int .i64 (i:Nat))]) (fun i=>4 - i) 0 ⟨rfl,rfl,rfl,rfl,rfl,trivial⟩ ⟨Ext.refl _,by decide⟩ ?_
 rintro i ρ w22 ⟨x22,hi⟩
 have x022:=x021.trans x22
 repeat (first|refine go1 ?_|refine zg λ_ _=>?_|refine zi λ_ _=>?_)
 refine zL (x:=.tmp 51) (p:=((i:Nat):Int)<4) rfl (fun h5=>?_) (fun h5=>?_)
 ·have hil:i<L.length:=by omega
  obtain ⟨⟨hs1,hi1⟩,hs2,hi2⟩:=hL4 _ (gMe hil)
  have r522:=Row.ext x22 r521
  repeat (first|(refine aL (d:=some 52) (E:=pairT) (M:= []) rfl rfl (n:=i) (l:=L) (hls.ext x22) rfl hil (fun ad cs r4 he=>?_);have ones:=pairT.one he;obtain ⟨c1,c2,rfl,g1,g2⟩:=he;obtain ⟨iv5,ov5,rfl, -⟩:=id g1;obtain ⟨iv6,ov6,rfl, -⟩:=id g2)|refine go1 ?_|refine zg λ_ _=>?_|refine zi λ_ _=>?_)
  generalize L[i]=p at*
  obtain ⟨p,q⟩:=p
  simp only at g1 g2 hs1 hi1 hs2 hi2 ones
  refine zE (d':=13) (fun _=>rfl) rfl rfl (List.all_eq_true.2 ones) (fun b13 w23 x23 a13 (r13:Row w23 ⟨b13,0,none⟩ (aK p iv5 ov5++aK q iv6 ov6)) hb13=>?_)
  have h13:=a13.lt
  have g23:=R.ext g1 x23
  have q23:=R.ext g2 x23
  have r523:=Row.ext x23 r522
  have hv23:=SlE.ext (x22.trans x23) hv21
  have s2223:=x22.size
  have s23:=x23.size
  clear r4 a13 g1 g2 r522 hL4
  repeat (first|refine go1 ?_|refine zg λ_ _=>?_|refine zi λ_ _=>?_)
  refine zC (d:=some 54) rfl (aP3 _) ?_
  rintro _ w24 ⟨g,M,rfl,G24,x24⟩
  have hM24:=G24.lt
  have hB24:=G24.base
  have s24:=x24.size
  have r1324:=Row.ext x24 r13
  have r524:=Row.ext x24 r523
  have hv24:=SlE.ext x24 hv23
  repeat (refine go1 ?_)
  first|refine zg (fun w25 x25=>?_)|(refine zi (fun w25 x25=>?_))
  refine jA (b:=.cons ⟨some 69,_,_⟩ _) (fun (p:Nat × Nat) w'=>Ext w24 w'∧sZ T.coins_Set w' p.1 p.2 V) (fun z=> [(5,.pointer (some ⟨b5,0,none⟩)),(7,vV),(13,.pointer (some ⟨b13,0,none⟩)),(14,.pointer (some ⟨g,0,none⟩)),(48,.slice (some ⟨b48,0,none⟩) 4 4),(49,.int .i64 4),(50,.int .i64 (i:Nat)),(56,.pointer (some ⟨g,0,none⟩)),(58,.agg (aK p iv5 ov5).toArray),(60,.agg (aK q iv6 ov6).toArray),(68,aMf (.iface T.P_coins_Set (.pointer (some ⟨z.1,0,none⟩))) y0 y1)]) ?_ ?_
  ·have r1325:=Row.ext x25 r1324
   have r525:=Row.ext x25 r524
   clear r1324 r524 r13 r523 r521
   repeat' (first|refine zB ?_ ?_|(refine zC (d:=some 62) rfl (aFq _ (SlE.ext (w:=w24) (by exact fx) hv24) hcV (by decide)) ?_;rintro _ w26 ⟨sb,smb,rfl,S26,hsb,hsmb,x26⟩)|refine bL (d:=some 68) (cs:= [.iface T.P_coins_Set (.pointer (some ⟨sb,0,none⟩)),.int .i64 y0,.int .i64 y1]) rfl ?_|(exact ⟨(sb,smb),⟨rfl,rfl,rfl,rfl,rfl,rfl,rfl,rfl,rfl,rfl,rfl,trivial⟩,by exact fx,S26.ext (by exact fx)⟩)|refine go1 ?_|refine zg λ_ _=>?_|refine zi λ_ _=>?_)
  rintro ⟨sb,smb⟩ ρ26 w26 ⟨x26,S26⟩
  simp only at S26
  try dsimp only
  have G26:=G24.ext x26
  have gM:txR.rel M w26 (aK p iv5 ov5) p:=R.step txR g23 (x24.trans x26) (by simp) (fun y hy=>.inr (hB24 y hy))
  have qM:txR.rel M w26 (aK q iv6 ov6) q:=R.step txR q23 (x24.trans x26) (by simp) (fun y hy=>.inr (hB24 y hy))
  refine zC (d:=some 69) rfl (aJ2 (M:=M) (U:= []) (N:=M) (l:= []) (f:=aS V) (cs:=aK p iv5 ov5) (ds:=aK q iv6 ov6) (a:=p) (b:=q) y0 y1 _ (GrU.of G26) (by simp) (by simp) (lE.of_set S26 hVs) gM hs1 qM hs2 (Gr.lt G26) (fun _ h=>h) (by simp) (by simp) (aSu hs1 hs2 hi1 hi2)) ?_
  rintro _ w30 ⟨u30,er,M1,rfl,hu30,R30,G30,c30,hM30,hdis⟩
  have G30:=G30.gr
  have hM1l:=G30.lt
  have x2330:Ext w23 w30:=(Ext.chg (x24.trans x26) c30).mono (fun y hy=>.inr (hB24 y hy))
  have x2130:Ext w21 w30:=(x22.trans x23).trans x2330
  have r1330:=Row.ext x2330 r13
  have r530:=Row.ext x2330 r523
  have g30:=R.ext g23 x2330
  have q30:=R.ext q23 x2330
  have hil:=(aZn (f:=aS V) (a:=p) (b:=q) (h:=y0) (rate:=y1) (l:= []) (by simp)).1
  clear c30 G26 gM qM x26 x25 S26 G24 hv24 r1324 r524 x24 hM30
  repeat (first|refine go1 ?_|refine zg λ_ _=>?_|refine zi λ_ _=>?_)
  refine zC (d:=some 82) rfl (aMe (M:= []) (V:=V) (l:= []) (a:=p) (b:=q) (cs:=aK p iv5 ov5) (ds:=aK q iv6 ov6) y0 y1 _ (hv21.ext x2130) (SlR.nil _ _) g30 q30 hs1 hs2 hVl (by simp) (by simp) hVk (by simp) hVi hVs (by simp) (by simp) (aSu hs1 hs2 hi1 hi2)) ?_
  rintro _ w31 ⟨gl,il,rfl,hgl,hil31,x31⟩
  have R31:=eJ.ext x31 R30
  have x2131:=x2130.trans x31
  have hg31:=hg.ext (x021.trans x2131)
  generalize hPE:eM (aS V) [] p q y0 y1=PE at*
  generalize hPL:iA (aS V) [] p q y0 y1=PL at*
  repeat (first|refine go1 ?_|refine zg λ_ _=>?_|refine zi λ_ _=>?_)
  refine zC (d:=some 88) rfl (aRu hg31 R31) ?_
  rintro _ w32 ⟨rfl,x32⟩
  repeat (first|refine aJ (d:=some 90) (.bool false) rfl (congrArg (fun b=>some (Value.bool (!b))) (dTr rfl)) ?_|refine go1 ?_|refine zg λ_ _=>?_|refine zi λ_ _=>?_)
  refine zC (d:=some 93) rfl (aO8 (hg31.ext x32) (eJ.ext x32 R31)) ?_
  rintro _ w33 ⟨rfl,x33⟩
  repeat (first|refine aJ (d:=some 95) (.bool false) rfl (congrArg (fun b=>some (Value.bool (!b))) (dTr rfl)) ?_|refine go1 ?_|refine zg λ_ _=>?_|refine zi λ_ _=>?_)
  refine zC (d:=some 100) rfl (aC3 (M:=M1) (N:= []) _ (G30.ext ((x31.trans x32).trans x33)).r (fun y hy=>nLt (hM1l y hy) ((x31.trans x32).trans x33).size) (hgl.ext (x32.trans x33)) (by simp at hil;omega)) ?_
  rintro _ w34 ⟨rfl,x34⟩
  repeat (first|refine go1 ?_|refine zg λ_ _=>?_|refine zi λ_ _=>?_)
  exact ⟨i+1,⟨rfl,rfl,rfl,rfl,rfl,trivial⟩,⟨x2131.trans ((x32.trans x33).trans x34),by omega⟩,by omega⟩
 ·repeat (first|refine go1 ?_|refine zg λ_ _=>?_|refine zi λ_ _=>?_)
  refine zC (d:=some 104) rfl (aHj _) ?_
  rintro _ w23 ⟨rfl,x23⟩
  repeat (first|refine go1 ?_|refine zg λ_ _=>?_|refine zi λ_ _=>?_)
  exact aC rfl ⟨rfl,x022.trans x23⟩
end
end Go.Proofs.YtfebcajheojodaaGreatDoor
