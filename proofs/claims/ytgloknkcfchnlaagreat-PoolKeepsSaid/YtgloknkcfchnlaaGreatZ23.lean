/- Contracts: dropping from a graph. Contracts: dropping from a -/
import Derived.Test.YtgloknkcfchnlaaGreatZ20
import Derived.Test.YtgloknkcfchnlaaGreatZ22
set_option linter.unusedVariables false
set_option linter.unusedSimpArgs false
namespace Go.Proofs.YtgloknkcfchnlaaGreat
section
open Go Go.K
attribute [local irreducible] aF aP bG KOp.wp K.Spec u32 leS vnS str aR dE bS idT aO aE aQ idN bB cH bY bT
theorem aY3:cK Tryz.prog F.graph_Graph_Drop_1=true:=by kernel_rfl
theorem aQg {b3:Nat} {t:TypeId} {id:ByteArray} (s:ByteArray) (w:World) (h3:At w b3 (.cells [.string id].toArray t (0,0))):K.Spec Tryz.prog F.graph_Graph_Drop_1 [.string s,.pointer (some ⟨b3,0,none⟩)] w fun r w'=>r=.bool (decide (s=id))∧w'=w:=by
 have r3:Row w ⟨b3,0,none⟩ [.string id]:=Row.of_at h3
 refine aDs rfl ?_
 unfold sP
 refine oy ?_
 repeat' (first|refine go1 ?_|refine zg λ_ _=>?_|refine zi λ_ _=>?_)
 exact aA rfl ⟨rfl,rfl⟩
set_option maxHeartbeats 2000000 in
theorem bJh {B g:Nat} {M:List Nat} {l:List Ent} (id:ByteArray) (w:World) (hG:Gr w B g M l) (hn:l.length≤1000):K.Spec Tryz.prog F.graph_Graph_Drop [.pointer (some ⟨g,0,none⟩),.string id] w fun r w'=>
  ∃M',r=.int .i64 (cE l id).2∧Gr w' B g M' (cE l id).1∧Chg M w w'∧(∀b∈M',b∈M∨w.heap.size≤b)∧((cE l id).2≠0→Ext w w'):=by
 have hG0:=hG
 obtain ⟨b1,vo,b2,m,sp,hP,rfl⟩:=hG
 have rg:Row w ⟨g,0,none⟩ [.map (some b1),vo,.map (some b2)]:=Row.of_at hP.at_
 have hq1:=hP.ents
 have hl1:=Gr.lt hG0
 refine wD rfl ?_
 unfold nO
 refine oy ?_
 repeat' (first|refine go1 ?_|refine zg λ_ _=>?_|refine zi λ_ _=>?_|refine zM rfl (fun h=>?_) (fun h=>?_)|refine zD rfl rfl (fun b3 wp xp a3 (r3:Row wp ⟨b3,0,none⟩ [.string id]) hp0=>?_)|refine wC (d:=some 17) (KE:=sK) (F:=dC) (M:=dT g b1 b2 vo) (k:=id) rfl rfl (by exact fx) rfl rfl (fun y cs hy hr=>?_) (fun hno=>?_)|(refine zH (d:=some 5) (fun b9 w9 x9 a9 hb9=>?_);have s9:w.heap.size≤b9:=nTr (Ext.size (w:=w) (by exact fx)) hb9;have s39:wp.heap.size≤b9:=nTr (Ext.size (w:=wp) (by exact fx)) hb9)|(obtain ⟨iv,ov,rfl,q1,q2,q3⟩:=hr;have i1:=q1.one;have i2:=q2.one;refine aU (w0:=w) (vs:=bC y iv ov) (by exact fx) s9 (by focus (repeat (first|assumption|(apply At.ext;assumption)))) rfl rfl rfl rfl (by simp [bC,i1,i2];exact ⟨rfl,rfl,rfl,rfl,rfl⟩) (fun w10 x10 c10 a10 r10=>?_);have l3:=a3.lt;have a30:At w10 b3 (.cells [.string id].toArray T.string (0,0)):=At.chg c10 (At.ext (show Ext wp w9 by exact fx) a3) (by simp;omega);have r30:Row w10 ⟨b3,0,none⟩ [.string id]:=Row.of_at a30;have q10:SlR inR (dT g b1 b2 vo) w10 iv y.tx.ins:=(q1.step (M':=b9::dT g b1 b2 vo) x9 (by simp) (fun b hb=>by rcases List.mem_cons.1 hb with h|h;(subst h;exact .inr hb9);exact .inl h)).step c10 (by intro q hq;simp at hq;subst hq;exact .inl (by simp)) (fun _ h=>.inl (by simp [h]));clear c10 q1 q2 a9 x9 hb9 s39 xp a3 r3)|refine aU (w0:=w) (vs:=aDa) (by exact fx) s9 (by focus (repeat (first|assumption|(apply At.ext;assumption)))) rfl rfl rfl rfl rfl (fun w10 x10 c10 a10 r10=>?_))
 ·clear ‹Ext wp _›
  rename_i wB xB
  have xwB:Ext w wB:=x10.trans xB
  have a3B:=a30.ext xB
  have a9B:=a10.ext xB
  have agB:=hP.at_.ext xwB
  have mB:=hq1.ext xwB
  have pB:=hP.pts.ext xwB
  have oB:=hP.ord.ext xwB
  have qB:=q10.ext xB
  have sB:=xwB.size
  have nd:=hP.nd
  simp only [List.nodup_cons,List.mem_cons,not_or] at nd
  obtain ⟨⟨n1,n2,n3⟩,⟨n4,n5⟩,n6,n7⟩:=nd
  have l1:b1<w.heap.size:=hl1 _ (by simp)
  have l2:b2<w.heap.size:=hl1 _ (by simp)
  have lg:g<w.heap.size:=hl1 _ (by simp)
  have lo:∀b∈aB vo,b<w.heap.size:=fun b hb=>hl1 b (by simp [hb])
  have hym:y∈l∧y.id=id:=by
   rw [hP.inv.ent] at hy
   exact ⟨List.mem_of_find?_eq_some hy,by have:=List.find?_some hy;exact of_decide_eq_true this⟩
  have hins:=(lE (hG0.ok y hym.1).check).ins
  clear xB x10 a30 a10 r10 r30 q10 rg
  refine aQs (KE:=sK) (F:=dC) (M:=dT g b1 b2 vo) (k:=id) rfl rfl mB (by simp) rfl rfl (fun w11 c11 m11=>?_)
  have ag11:=agB.chg c11 (by simp;omega)
  have a311:=a3B.chg c11 (by simp;omega)
  have a911:=a9B.chg c11 (by simp;omega)
  have p11:=pB.chg c11 (by simp;omega)
  have o11:=oB.chg c11 (fun b hb h=>by simp at h;subst h;exact n5 hb)
  have q11:=qB.step (M':=dT g b1 b2 vo) c11 (fun b hb=>by simp at hb;subst hb;exact .inl (by simp)) (fun _ h=>.inl h)
  have r911:Row w11 ⟨b9,0,none⟩ (bC y iv ov):=Row.of_at a911
  have C11:Chg (dT g b1 b2 vo) w w11:=(xwB.chg c11).mono (fun b hb=>by simp at hb;subst hb;exact .inl (by simp))
  have sB11:w.heap.size≤w11.heap.size:=nTr sB c11.size
  clear agB a3B a9B pB oB mB qB c11 xwB
  repeat' (first|refine go1 ?_|refine zg λ_ _=>?_|refine zi λ_ _=>?_|refine zL rfl (fun h=>?_) (fun h=>?_)|refine zG (E:=inR) (M:=dT g b1 b2 vo) (l:=y.tx.ins) rfl (SlR.ext q11 (by exact fx)) ?_|(refine aI (fun (i:Nat) w'=>Chg [b2] w11 w'∧i≤y.tx.ins.length∧dI ptK Value.string w' b2 (yF sp (y.tx.ins.take i))) (fun i=> [(0,.pointer (some ⟨g,0,none⟩)),(3,.pointer (some ⟨b3,0,none⟩)),(29,iv),(30,.int .i64 (y.tx.ins.length:Nat)),(31,.int .i64 i)]) (fun i=>y.tx.ins.length - i) 0 ⟨rfl,rfl,rfl,rfl,rfl,trivial⟩ ⟨(show Ext w11 _ by exact fx).mono (by simp),by simp,dI.ext (by exact fx) p11⟩ ?_;rintro i ρ w3 ⟨x3,hi,hmp⟩))
  ·have hi3:SlR inR (dT g b1 b2 vo) w3 iv y.tx.ins:=q11.step x3 (fun b hb=>.inl (by simp at hb;simp [hb])) (fun _ h=>.inl h)
   have rg3:Row w3 ⟨g,0,none⟩ [.map (some b1),vo,.map (some b2)]:=Row.of_at (ag11.chg x3 (by simp;omega))
   clear r911
   repeat' (first|refine go1 ?_|refine zg λ_ _=>?_|refine zi λ_ _=>?_|(refine aM (d:=some 33) (E:=inR) (M:=dT g b1 b2 vo) rfl rfl (n:=i) (l:=y.tx.ins) (SlR.ext hi3 (by exact fx)) rfl (by omega) (fun ad cs r4 he=>?_);obtain ⟨wv,rfl,hw,hp5,hp6⟩:=he;obtain ⟨bs1,cp1,rfl⟩:=hw.form;have hil:i<y.tx.ins.length:=(by omega))|refine zE (d':=8) (fun _=>rfl) rfl rfl rfl (fun b8 w8 x8 a8 (r8:Row w8 ⟨b8,0,none⟩ (eJ y.tx.ins[i] (.slice bs1 y.tx.ins[i].wit.length cp1))) hb8=>?_)|(refine aFf (E:=ptK) (fv:=Value.string) (k:=y.tx.ins[i].p) rfl rfl (dI.ext (w:=w3) (by exact fx) hmp) rfl rfl (fun w5 c5 m5=>?_);have x35:Chg [b2] w3 w5:=Ext.chg (by exact fx) c5))
   exact ⟨i+1,⟨rfl,rfl,rfl,rfl,rfl,trivial⟩,⟨(x3.trans x35).mono (by simp),by omega,by rw [aM6 hil];exact m5⟩,by omega⟩
  ·have ei:i=y.tx.ins.length:=by omega
   subst ei
   rw [tLe (Nat.le_refl _)] at hmp
   have ag3:=ag11.chg x3 (by simp;omega)
   have rg3:Row w3 ⟨g,0,none⟩ [.map (some b1),vo,.map (some b2)]:=Row.of_at ag3
   have a33:=a311.chg x3 (by simp;omega)
   have o3:=o11.chg x3 (fun b hb h=>by simp at h;subst h;exact n6 hb)
   have m3:=m11.step (M':=dT g b1 b2 vo) x3 (by simp;omega) (fun b hb=>.inl (by simp at hb;simp [hb])) (fun _ h=>.inl h)
   have C3:Chg (dT g b1 b2 vo) w w3:=(C11.trans x3).mono (fun b hb=>by simp at hb ⊢;grind)
   have s3:=x3.size
   clear q11 r911 ag11 a311 a911 p11 o11 m11 C11
   repeat' (first|refine go1 ?_|refine zg λ_ _=>?_|refine zi λ_ _=>?_|(refine zC rfl (aQ6 (g:=F.graph_Graph_Drop_1) (capl:= [.pointer (some ⟨b3,0,none⟩)]) (l:=l.map (fun x:Ent=>x.id)) (B:=B) _ (fun s=>decide (s=id)) aY3 (Own.ext (w:=w3) (by exact fx) o3) (by simp;omega) (fun W s hW=>aQg s W (At.chg hW (At.ext (w:=w3) (by exact fx) a33) (fun h=>by have:=lo _ h;omega)))) ?_;rintro v6 w6 ⟨o6,c6,hb6⟩;have c36:Chg (aB vo) w3 w6:=Ext.chg (by exact fx) c6;have hv1:v6.oneCell'=true:=(by obtain ⟨_,_,e⟩:=o6.sl.form;rw [e];rfl)))
   refine bO (b:=g) (o:=1) (v:=v6) rfl rfl hv1 (ag3.chg c36 n3) (by simp) (fun w14 c14 ag14=>?_)
   have ag14:At w14 g (.cells [.map (some b1),v6,.map (some b2)].toArray T.graph_Graph (0,0)):=ag14
   repeat (first|refine go1 ?_|refine zg λ_ _=>?_|refine zi λ_ _=>?_)
   have nb2:b2∉aB v6:=fun h=>n6 (hb6 _ h)
   have nb1:b1∉aB v6:=fun h=>n5 (hb6 _ h)
   have nbg:g∉aB v6:=fun h=>n3 (hb6 _ h)
   have hM':∀b∈dT g b1 b2 v6,b∈dT g b1 b2 vo:=fun b hb=>by
    simp only [List.mem_cons] at hb ⊢
    rcases hb with rfl|rfl|rfl|hb
    ·exact .inl rfl
    ·exact .inr (.inl rfl)
    ·exact .inr (.inr (.inl rfl))
    ·exact .inr (.inr (.inr (hb6 b hb)))
   have m6:=m3.step (M':=dT g b1 b2 v6) c36 n5 (fun b hb=>.inl (by simp [hb])) (fun b hb=>.inl (hM' b hb))
   have m14:=m6.step (M':=dT g b1 b2 v6) c14 (by simp;omega) (fun b hb=>by simp at hb;subst hb;exact .inl (by simp)) (fun _ h=>.inl h)
   have p14:=(hmp.chg c36 n6).chg c14 (by simp;omega)
   have hC:Chg (dT g b1 b2 vo) w w14:=((C3.trans c36).trans c14).mono (fun b hb=>by simp at hb ⊢;grind)
   obtain ⟨hym,rfl⟩:=hym
   obtain ⟨n,hnl,rfl⟩:=List.getElem_of_mem hym
   have hfi:bT l l[n].id=n:=by
    unfold bT
    exact idxOf_hit hnl (dTr rfl) (fun j hj=>dFa fun e=>by
     have:=mV hG0.nodup (show j<l.length by omega) hnl (by rw [cL (by omega),cL hnl];exact e)
     omega)
   have ed:cE l l[n].id=(l.filter fun z=>!decide (z.id=l[n].id),0):=by
    rw [cE,if_neg (by rw [hfi];omega),hfi,Int.toNat_natCast,aJl hG0.nodup hnl rfl]
   rw [ed]
   have e6:(l.map (·.id)).filter (fun s=>!decide (s=l[n].id))=(l.filter fun z=>!decide (z.id=l[n].id)).map (·.id):=by
    rw [List.filter_map];rfl
   rw [e6] at o6
   refine aA rfl ⟨_,rfl,⟨b1,v6,b2,_,_,⟨ag14,m14,p14,?_,hP.inv.del hym,?_,hP.lo⟩,rfl⟩,hC,fun b hb=>.inl (hM' b hb),fun h=>absurd rfl h⟩
   ·exact o6.chg c14 (fun b hb h=>by simp at h;subst h;exact nbg hb)
   ·simp only [List.nodup_cons,List.mem_cons,not_or]
    exact ⟨⟨n1,n2,nbg⟩,⟨n4,nb1⟩,nb2,xJ v6⟩
 ·have hf:bT l id<0:=by
   rw [hP.inv.ent] at hno
   rcases Int.lt_or_le (bT l id) 0 with h1|h1
   ·exact h1
   ·have h2:=pK (p:=fun x:Ent=>decide (x.id=id)) (l:=l)
    have h3:l.any (fun x=>decide (x.id=id))=true:=by rw [←h2];unfold bT at h1;exact dTr h1
    obtain ⟨z,hz,h4⟩:=List.any_eq_true.1 h3
    exact absurd h4 (List.find?_eq_none.1 hno z hz)
  rw [cE,if_pos hf]
  exact aA rfl ⟨_,rfl,hG0.ext x10,x10.mono (by simp),fun b hb=>.inl hb,fun _=>x10⟩
theorem aQz {B g:Nat} {M:List Nat} {l:List Ent} (id:ByteArray) (w:World) (hG:Gr w B g M l) (hn:l.length≤1000):K.Spec Tryz.prog F.graph_Graph_Drop [.pointer (some ⟨g,0,none⟩),.string id] w fun r w'=>
  ∃M',r=.int .i64 (cE l id).2∧Gr w' B g M' (cE l id).1∧Chg M w w'∧∀b∈M',b∈M∨w.heap.size≤b:=
 eZ (bJh id w hG hn) fun _ _ ⟨M',h1,h2,h3,h4,_⟩=>⟨M',h1,h2,h3,h4⟩
end
section
open Go Go.K
attribute [local irreducible] aF aP bG KOp.wp K.Spec u32 leS vnS str aR dE bS idT aO aE aQ idN bB cH bY bT
theorem Gr.both {w:World} {B g:Nat} {M U:List Nat} {l:List Ent} (hG:Gr w B g M l) (hU:GrR w g (U++M) l):∃b1 vo b2 m sp,GrP w B g b1 vo b2 m sp l∧M=dT g b1 b2 vo∧pO sK dC (U++M) w b1 m:=by
 obtain ⟨b1,vo,b2,m,sp,P,rfl⟩:=hG
 obtain ⟨b1',vo',b2',m',sp',Q⟩:=hU
 have e: [Value.map (some b1),vo,.map (some b2)]= [.map (some b1'),vo',.map (some b2')]:=by
  have h1:=P.at_
  have h2:=Q.at_
  unfold At at h1 h2
  rw [h1] at h2
  simpa using h2
 simp only [List.cons.injEq,Value.map.injEq,Option.some.injEq,and_true] at e
 obtain ⟨rfl,rfl,rfl⟩:=e
 exact ⟨b1,vo,b2,m',sp',⟨P.at_,Q.ents.step (Chg.refl [] _) (by simp) (by simp) (fun b hb=>.inl (List.mem_append_right _ hb)),Q.pts,P.ord,Q.inv,P.nd,P.lo⟩,rfl,Q.ents⟩
structure GrU (w:World) (B g:Nat) (M U:List Nat) (l:List Ent):Prop where
 gr:Gr w B g M l
 rd:GrR w g (U++M) l
 dj:∀b∈M,b∉U
theorem GrU.ext {w w':World} {B g:Nat} {M U:List Nat} {l:List Ent} (h:GrU w B g M U l) (c:Ext w w'):GrU w' B g M U l:=⟨h.gr.ext c,h.rd.ext c,h.dj⟩
theorem GrU.of {w:World} {B g:Nat} {M:List Nat} {l:List Ent} (h:Gr w B g M l):GrU w B g M [] l:=⟨h,h.r,by simp⟩
theorem GrU.more {w w':World} {B g:Nat} {M U U':List Nat} {l:List Ent} (h:GrU w B g M U l) (c:Ext w w') (hU:∀b∈U',b∈U∨w.heap.size≤b):GrU w' B g M U' l:=
 ⟨h.gr.ext c,h.rd.more c (fun b hb=>(List.mem_append.1 hb).elim (fun h1=>(hU b h1).imp (fun h2=>List.mem_append_left _ h2) id) (fun h1=>.inl (List.mem_append_right _ h1))),fun b hb h1=>(hU b h1).elim (h.dj b hb) (fun h2=>by have:=h.gr.lt b hb;omega)⟩
theorem GrU.chg {w w':World} {B g:Nat} {M U U':List Nat} {l:List Ent} (h:GrU w B g M U l) (c:Chg U w w') (hU:∀b∈U',b∈U∨w.heap.size≤b):GrU w' B g M U' l:=by
 have hlt:=h.gr.lt
 obtain ⟨b1,vo,b2,m,sp,P,rfl,q⟩:=Gr.both h.gr h.rd
 have dj:=h.dj
 have n1:=dj g (by simp)
 have n2:=dj b1 (by simp)
 have n3:=dj b2 (by simp)
 have o:=P.ord.chg c fun b hb h=>dj b (by simp [hb]) h
 have a:=P.at_.chg c n1
 have pp:=P.pts.chg c n3
 have e1:∀b∈U'++dT g b1 b2 vo,b∈U++dT g b1 b2 vo∨w.heap.size≤b:=fun b hb=>(List.mem_append.1 hb).elim (fun h1=>(hU b h1).imp (fun h2=>List.mem_append_left _ h2) id) (fun h1=>.inl (List.mem_append_right _ h1))
 have mm:=q.step (M':=U'++dT g b1 b2 vo) c n2 (fun b hb=>.inl (List.mem_append_left _ hb)) e1
 have m0:=q.step (M':=dT g b1 b2 vo) c n2 (fun b hb=>.inl (List.mem_append_left _ hb)) (fun b hb=>.inl (List.mem_append_right _ hb))
 exact ⟨⟨b1,vo,b2,m,sp,⟨a,m0,pp,o,P.inv,P.nd,P.lo⟩,rfl⟩,⟨b1,vo,b2,m,sp,⟨a,mm,pp,o.sl,P.inv⟩⟩,fun b hb h1=>(hU b h1).elim (dj b hb) (fun h2=>by have:=hlt b hb;omega)⟩
set_option maxHeartbeats 2000000 in
theorem bPa {B g:Nat} {M U:List Nat} {l:List Ent} (id:ByteArray) (w:World) (hG:Gr w B g M l) (hU:GrR w g (U++M) l) (hn:l.length≤1000):K.Spec Tryz.prog F.graph_Graph_Drop [.pointer (some ⟨g,0,none⟩),.string id] w fun r w'=>
  ∃M',r=.int .i64 (cE l id).2∧Gr w' B g M' (cE l id).1∧Chg M w w'∧(∀b∈M',b∈M∨w.heap.size≤b)∧GrR w' g (U++M') (cE l id).1:=by
 have hG0:=hG
 obtain ⟨b1,vo,b2,m,sp,hP,rfl,hu1⟩:=Gr.both hG hU
 have rg:Row w ⟨g,0,none⟩ [.map (some b1),vo,.map (some b2)]:=Row.of_at hP.at_
 have hq1:=hP.ents
 have hl1:=Gr.lt hG0
 refine wD rfl ?_
 unfold nO
 refine oy ?_
 repeat' (first|refine go1 ?_|refine zg λ_ _=>?_|refine zi λ_ _=>?_|refine zM rfl (fun h=>?_) (fun h=>?_)|refine zD rfl rfl (fun b3 wp xp a3 (r3:Row wp ⟨b3,0,none⟩ [.string id]) hp0=>?_)|refine wC (d:=some 17) (KE:=sK) (F:=dC) (M:=dT g b1 b2 vo) (k:=id) rfl rfl (by exact fx) rfl rfl (fun y cs hy hr=>?_) (fun hno=>?_)|(refine zH (d:=some 5) (fun b9 w9 x9 a9 hb9=>?_);have s9:w.heap.size≤b9:=nTr (Ext.size (w:=w) (by exact fx)) hb9;have s39:wp.heap.size≤b9:=nTr (Ext.size (w:=wp) (by exact fx)) hb9)|(obtain ⟨iv,ov,rfl,q1,q2,q3⟩:=hr;have i1:=q1.one;have i2:=q2.one;refine aU (w0:=w) (vs:=bC y iv ov) (by exact fx) s9 (by focus (repeat (first|assumption|(apply At.ext;assumption)))) rfl rfl rfl rfl (by simp [bC,i1,i2];exact ⟨rfl,rfl,rfl,rfl,rfl⟩) (fun w10 x10 c10 a10 r10=>?_);have l3:=a3.lt;have a30:At w10 b3 (.cells [.string id].toArray T.string (0,0)):=At.chg c10 (At.ext (show Ext wp w9 by exact fx) a3) (by simp;omega);have r30:Row w10 ⟨b3,0,none⟩ [.string id]:=Row.of_at a30;have q10:SlR inR (dT g b1 b2 vo) w10 iv y.tx.ins:=(q1.step (M':=b9::dT g b1 b2 vo) x9 (by simp) (fun b hb=>by rcases List.mem_cons.1 hb with h|h;(subst h;exact .inr hb9);exact .inl h)).step c10 (by intro q hq;simp at hq;subst hq;exact .inl (by simp)) (fun _ h=>.inl (by simp [h]));clear c10 q1 q2 a9 x9 hb9 s39 xp a3 r3)|refine aU (w0:=w) (vs:=aDa) (by exact fx) s9 (by focus (repeat (first|assumption|(apply At.ext;assumption)))) rfl rfl rfl rfl rfl (fun w10 x10 c10 a10 r10=>?_))
 ·clear ‹Ext wp _›
  rename_i wB xB
  have xwB:Ext w wB:=x10.trans xB
  have a3B:=a30.ext xB
  have a9B:=a10.ext xB
  have agB:=hP.at_.ext xwB
  have mB:=hq1.ext xwB
  have uB:=hu1.ext xwB
  have pB:=hP.pts.ext xwB
  have oB:=hP.ord.ext xwB
  have qB:=q10.ext xB
  have sB:=xwB.size
  have nd:=hP.nd
  simp only [List.nodup_cons,List.mem_cons,not_or] at nd
  obtain ⟨⟨n1,n2,n3⟩,⟨n4,n5⟩,n6,n7⟩:=nd
  have l1:b1<w.heap.size:=hl1 _ (by simp)
  have l2:b2<w.heap.size:=hl1 _ (by simp)
  have lg:g<w.heap.size:=hl1 _ (by simp)
  have lo:∀b∈aB vo,b<w.heap.size:=fun b hb=>hl1 b (by simp [hb])
  have hym:y∈l∧y.id=id:=by
   rw [hP.inv.ent] at hy
   exact ⟨List.mem_of_find?_eq_some hy,by have:=List.find?_some hy;exact of_decide_eq_true this⟩
  have hins:=(lE (hG0.ok y hym.1).check).ins
  clear xB x10 a30 a10 r10 r30 q10 rg
  refine aQs (KE:=sK) (F:=dC) (M:=U++dT g b1 b2 vo) (k:=id) rfl rfl uB (by simp) rfl rfl (fun w11 c11 m11=>?_)
  have ag11:=agB.chg c11 (by simp;omega)
  have a311:=a3B.chg c11 (by simp;omega)
  have a911:=a9B.chg c11 (by simp;omega)
  have p11:=pB.chg c11 (by simp;omega)
  have o11:=oB.chg c11 (fun b hb h=>by simp at h;subst h;exact n5 hb)
  have q11:=qB.step (M':=dT g b1 b2 vo) c11 (fun b hb=>by simp at hb;subst hb;exact .inl (by simp)) (fun _ h=>.inl h)
  have r911:Row w11 ⟨b9,0,none⟩ (bC y iv ov):=Row.of_at a911
  have C11:Chg (dT g b1 b2 vo) w w11:=(xwB.chg c11).mono (fun b hb=>by simp at hb;subst hb;exact .inl (by simp))
  have sB11:w.heap.size≤w11.heap.size:=nTr sB c11.size
  clear agB a3B a9B pB oB mB uB qB c11 xwB
  repeat' (first|refine go1 ?_|refine zg λ_ _=>?_|refine zi λ_ _=>?_|refine zL rfl (fun h=>?_) (fun h=>?_)|refine zG (E:=inR) (M:=dT g b1 b2 vo) (l:=y.tx.ins) rfl (SlR.ext q11 (by exact fx)) ?_|(refine aI (fun (i:Nat) w'=>Chg [b2] w11 w'∧i≤y.tx.ins.length∧dI ptK Value.string w' b2 (yF sp (y.tx.ins.take i))) (fun i=> [(0,.pointer (some ⟨g,0,none⟩)),(3,.pointer (some ⟨b3,0,none⟩)),(29,iv),(30,.int .i64 (y.tx.ins.length:Nat)),(31,.int .i64 i)]) (fun i=>y.tx.ins.length - i) 0 ⟨rfl,rfl,rfl,rfl,rfl,trivial⟩ ⟨(show Ext w11 _ by exact fx).mono (by simp),by simp,dI.ext (by exact fx) p11⟩ ?_;rintro i ρ w3 ⟨x3,hi,hmp⟩))
  ·have hi3:SlR inR (dT g b1 b2 vo) w3 iv y.tx.ins:=q11.step x3 (fun b hb=>.inl (by simp at hb;simp [hb])) (fun _ h=>.inl h)
   have rg3:Row w3 ⟨g,0,none⟩ [.map (some b1),vo,.map (some b2)]:=Row.of_at (ag11.chg x3 (by simp;omega))
   clear r911
   repeat' (first|refine go1 ?_|refine zg λ_ _=>?_|refine zi λ_ _=>?_|(refine aM (d:=some 33) (E:=inR) (M:=dT g b1 b2 vo) rfl rfl (n:=i) (l:=y.tx.ins) (SlR.ext hi3 (by exact fx)) rfl (by omega) (fun ad cs r4 he=>?_);obtain ⟨wv,rfl,hw,hp5,hp6⟩:=he;obtain ⟨bs1,cp1,rfl⟩:=hw.form;have hil:i<y.tx.ins.length:=(by omega))|refine zE (d':=8) (fun _=>rfl) rfl rfl rfl (fun b8 w8 x8 a8 (r8:Row w8 ⟨b8,0,none⟩ (eJ y.tx.ins[i] (.slice bs1 y.tx.ins[i].wit.length cp1))) hb8=>?_)|(refine aFf (E:=ptK) (fv:=Value.string) (k:=y.tx.ins[i].p) rfl rfl (dI.ext (w:=w3) (by exact fx) hmp) rfl rfl (fun w5 c5 m5=>?_);have x35:Chg [b2] w3 w5:=Ext.chg (by exact fx) c5))
   exact ⟨i+1,⟨rfl,rfl,rfl,rfl,rfl,trivial⟩,⟨(x3.trans x35).mono (by simp),by omega,by rw [aM6 hil];exact m5⟩,by omega⟩
  ·have ei:i=y.tx.ins.length:=by omega
   subst ei
   rw [tLe (Nat.le_refl _)] at hmp
   have ag3:=ag11.chg x3 (by simp;omega)
   have rg3:Row w3 ⟨g,0,none⟩ [.map (some b1),vo,.map (some b2)]:=Row.of_at ag3
   have a33:=a311.chg x3 (by simp;omega)
   have o3:=o11.chg x3 (fun b hb h=>by simp at h;subst h;exact n6 hb)
   have m3:=m11.step (M':=U++dT g b1 b2 vo) x3 (by simp;omega) (fun b hb=>.inl (by simp at hb;simp [hb])) (fun _ h=>.inl h)
   have C3:Chg (dT g b1 b2 vo) w w3:=(C11.trans x3).mono (fun b hb=>by simp at hb ⊢;grind)
   have s3:=x3.size
   clear q11 r911 ag11 a311 a911 p11 o11 m11 C11
   repeat' (first|refine go1 ?_|refine zg λ_ _=>?_|refine zi λ_ _=>?_|(refine zC rfl (aQ6 (g:=F.graph_Graph_Drop_1) (capl:= [.pointer (some ⟨b3,0,none⟩)]) (l:=l.map (fun x:Ent=>x.id)) (B:=B) _ (fun s=>decide (s=id)) aY3 (Own.ext (w:=w3) (by exact fx) o3) (by simp;omega) (fun W s hW=>aQg s W (At.chg hW (At.ext (w:=w3) (by exact fx) a33) (fun h=>by have:=lo _ h;omega)))) ?_;rintro v6 w6 ⟨o6,c6,hb6⟩;have c36:Chg (aB vo) w3 w6:=Ext.chg (by exact fx) c6;have hv1:v6.oneCell'=true:=(by obtain ⟨_,_,e⟩:=o6.sl.form;rw [e];rfl)))
   refine bO (b:=g) (o:=1) (v:=v6) rfl rfl hv1 (ag3.chg c36 n3) (by simp) (fun w14 c14 ag14=>?_)
   have ag14:At w14 g (.cells [.map (some b1),v6,.map (some b2)].toArray T.graph_Graph (0,0)):=ag14
   repeat (first|refine go1 ?_|refine zg λ_ _=>?_|refine zi λ_ _=>?_)
   have nb2:b2∉aB v6:=fun h=>n6 (hb6 _ h)
   have nb1:b1∉aB v6:=fun h=>n5 (hb6 _ h)
   have nbg:g∉aB v6:=fun h=>n3 (hb6 _ h)
   have hM':∀b∈dT g b1 b2 v6,b∈dT g b1 b2 vo:=fun b hb=>by
    simp only [List.mem_cons] at hb ⊢
    rcases hb with rfl|rfl|rfl|hb
    ·exact .inl rfl
    ·exact .inr (.inl rfl)
    ·exact .inr (.inr (.inl rfl))
    ·exact .inr (.inr (.inr (hb6 b hb)))
   have hMU:∀b∈U++dT g b1 b2 v6,b∈U++dT g b1 b2 vo:=fun b hb=>(List.mem_append.1 hb).elim (fun h=>List.mem_append_left _ h) (fun h=>List.mem_append_right _ (hM' b h))
   have m6:=m3.step (M':=U++dT g b1 b2 v6) c36 n5 (fun b hb=>.inl (by simp [hb])) (fun b hb=>.inl (hMU b hb))
   have m14:=m6.step (M':=U++dT g b1 b2 v6) c14 (by simp;omega) (fun b hb=>by simp at hb;subst hb;exact .inl (by simp)) (fun _ h=>.inl h)
   have p14:=(hmp.chg c36 n6).chg c14 (by simp;omega)
   have hC:Chg (dT g b1 b2 vo) w w14:=((C3.trans c36).trans c14).mono (fun b hb=>by simp at hb ⊢;grind)
   obtain ⟨hym,rfl⟩:=hym
   obtain ⟨n,hnl,rfl⟩:=List.getElem_of_mem hym
   have hfi:bT l l[n].id=n:=by
    unfold bT
    exact idxOf_hit hnl (dTr rfl) (fun j hj=>dFa fun e=>by
     have:=mV hG0.nodup (show j<l.length by omega) hnl (by rw [cL (by omega),cL hnl];exact e)
     omega)
   have ed:cE l l[n].id=(l.filter fun z=>!decide (z.id=l[n].id),0):=by
    rw [cE,if_neg (by rw [hfi];omega),hfi,Int.toNat_natCast,aJl hG0.nodup hnl rfl]
   rw [ed]
   have e6:(l.map (·.id)).filter (fun s=>!decide (s=l[n].id))=(l.filter fun z=>!decide (z.id=l[n].id)).map (·.id):=by
    rw [List.filter_map];rfl
   rw [e6] at o6
   have o14:=o6.chg c14 (fun b hb h=>by simp at h;subst h;exact nbg hb)
   have m15:=m14.step (M':=dT g b1 b2 v6) (Chg.refl [] _) (by simp) (by simp) (fun b hb=>.inl (List.mem_append_right _ hb))
   refine aA rfl ⟨_,rfl,⟨b1,v6,b2,_,_,⟨ag14,m15,p14,o14,hP.inv.del hym,?_,hP.lo⟩,rfl⟩,hC,fun b hb=>.inl (hM' b hb),⟨b1,v6,b2,_,_,⟨ag14,m14,p14,o14.sl,hP.inv.del hym⟩⟩⟩
   ·simp only [List.nodup_cons,List.mem_cons,not_or]
    exact ⟨⟨n1,n2,nbg⟩,⟨n4,nb1⟩,nb2,xJ v6⟩
 ·have hf:bT l id<0:=by
   rw [hP.inv.ent] at hno
   rcases Int.lt_or_le (bT l id) 0 with h1|h1
   ·exact h1
   ·have h2:=pK (p:=fun x:Ent=>decide (x.id=id)) (l:=l)
    have h3:l.any (fun x=>decide (x.id=id))=true:=by rw [←h2];unfold bT at h1;exact dTr h1
    obtain ⟨z,hz,h4⟩:=List.any_eq_true.1 h3
    exact absurd h4 (List.find?_eq_none.1 hno z hz)
  rw [cE,if_pos hf]
  exact aA rfl ⟨_,rfl,hG0.ext x10,x10.mono (by simp),fun b hb=>.inl hb,hU.ext x10⟩
theorem bMx {B g:Nat} {M U:List Nat} {l:List Ent} (id:ByteArray) (w:World) (hG:GrU w B g M U l) (hU:∀b∈U,b<w.heap.size) (hn:l.length≤1000):K.Spec Tryz.prog F.graph_Graph_Drop [.pointer (some ⟨g,0,none⟩),.string id] w fun r w'=>
  ∃M',r=.int .i64 (cE l id).2∧GrU w' B g M' U (cE l id).1∧Chg M w w'∧∀b∈M',b∈M∨w.heap.size≤b:=
 eZ (bPa id w hG.gr hG.rd hn) fun _ _ ⟨M',h1,h2,h3,h4,h5⟩=>⟨M',h1,⟨h2,h5,fun b hb h=>(h4 b hb).elim (fun h6=>hG.dj b h6 h) (fun h6=>by have:=hU b h;omega)⟩,h3,h4⟩
end
end Go.Proofs.YtgloknkcfchnlaaGreat
