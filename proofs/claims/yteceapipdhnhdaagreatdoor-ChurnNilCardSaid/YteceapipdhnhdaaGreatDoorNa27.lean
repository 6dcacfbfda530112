/- Contracts: dropping from a graph. Contracts: dropping from a -/
import Derived.Test.YteceapipdhnhdaaGreatDoorNa23
import Derived.Test.YteceapipdhnhdaaGreatDoorNa24
set_option linter.unusedVariables false
set_option linter.unusedSimpArgs false
namespace Go.Proofs.YteceapipdhnhdaaGreatDoor
section
open Go Go.K
attribute [local irreducible] aH aM aY KOp.wp K.Spec u32 leS vnS str aP cM bK idT aQ aG aN idN bG cL cB bQ
theorem aXm:bW Tryz.prog F.graph_Graph_Drop_1=true:=by kernel_rfl
theorem aOl {b3:Nat} {t:TypeId} {id:ByteArray} (s:ByteArray) (w:World) (h3:At w b3 (.cells [.string id].toArray t (0,0))):K.Spec Tryz.prog F.graph_Graph_Drop_1 [.string s,.pointer (some ⟨b3,0,none⟩)] w fun r w'=>r=.bool (decide (s=id))∧w'=w:=by
 have r3:Row w ⟨b3,0,none⟩ [.string id]:=Row.of_at h3
 refine aB9 rfl ?_
 unfold qV
 refine oy ?_
 repeat' (first|refine go1 ?_|refine zg λ_ _=>?_|refine zi λ_ _=>?_)
 exact aA rfl ⟨rfl,rfl⟩
set_option maxHeartbeats 2000000 in
theorem bH4 {B g:Nat} {M:List Nat} {l:List Ent} (id:ByteArray) (w:World) (hG:Gr w B g M l) (hn:l.length≤1000):K.Spec Tryz.prog F.graph_Graph_Drop [.pointer (some ⟨g,0,none⟩),.string id] w fun r w'=>
  ∃M',r=.int .i64 (cF l id).2∧Gr w' B g M' (cF l id).1∧Chg M w w'∧(∀b∈M',b∈M∨w.heap.size≤b)∧((cF l id).2≠0→Ext w w'):=by
 have hG0:=hG
 obtain ⟨b1,vo,b2,m,sp,hP,rfl⟩:=hG
 have rg:Row w ⟨g,0,none⟩ [.map (some b1),vo,.map (some b2)]:=Row.of_at hP.at_
 have hq1:=hP.ents
 have hl1:=Gr.lt hG0
 refine tY rfl ?_
 unfold lN
 refine oy ?_
 repeat' (first|refine go1 ?_|refine zg λ_ _=>?_|refine zi λ_ _=>?_|refine zM rfl (fun h=>?_) (fun h=>?_)|refine zD rfl rfl (fun b3 wp xp a3 (r3:Row wp ⟨b3,0,none⟩ [.string id]) hp0=>?_)|refine aAy (d:=some 17) (KE:=sK) (F:=eD) (M:=dS g b1 b2 vo) (k:=id) rfl rfl (by exact fx) rfl rfl (fun y cs hy hr=>?_) (fun hno=>?_)|(refine zH (d:=some 5) (fun b9 w9 x9 a9 hb9=>?_);have s9:w.heap.size≤b9:=nTr (Ext.size (w:=w) (by exact fx)) hb9;have s39:wp.heap.size≤b9:=nTr (Ext.size (w:=wp) (by exact fx)) hb9)|(obtain ⟨iv,ov,rfl,q1,q2,q3⟩:=hr;have i1:=q1.one;have i2:=q2.one;refine aW (w0:=w) (vs:=bE y iv ov) (by exact fx) s9 (by exact atx) rfl rfl rfl rfl (by simp [bE,i1,i2];exact ⟨rfl,rfl,rfl,rfl,rfl⟩) (fun w10 x10 c10 a10 r10=>?_);have l3:=a3.lt;have a30:At w10 b3 (.cells [.string id].toArray T.string (0,0)):=At.chg c10 (At.ext (show Ext wp w9 by exact fx) a3) (by simp;omega);have r30:Row w10 ⟨b3,0,none⟩ [.string id]:=Row.of_at a30;have q10:SlR inR (dS g b1 b2 vo) w10 iv y.tx.ins:=(q1.step (M':=b9::dS g b1 b2 vo) x9 (by simp) (fun b hb=>by rcases List.mem_cons.1 hb with h|h;(subst h;exact .inr hb9);exact .inl h)).step c10 (by intro q hq;simp at hq;subst hq;exact .inl (by simp)) (fun _ h=>.inl (by simp [h]));clear c10 q1 q2 a9 x9 hb9 s39 xp a3 r3)|refine aW (w0:=w) (vs:=zR) (by exact fx) s9 (by exact atx) rfl rfl rfl rfl rfl (fun w10 x10 c10 a10 r10=>?_))
 ·clear ‹Ext wp _›
  rename_i wB xB
  have xwB:Ext w wB:=x10.trans xB
  have a3B:=a30.ext xB
  have a9B:=a10.ext xB
  have agB:=hP.at_.ext xwB
  have mB:=hq1.ext xwB
  have pB:=hP.pts.ext xwB
  have oB:=hP.ord.ext xwB
  have qB:=q10.ext xB
  have sB:=xwB.size
  have nd:=hP.nd
  simp only [List.nodup_cons,List.mem_cons,not_or] at nd
  obtain ⟨⟨n1,n2,n3⟩,⟨n4,n5⟩,n6,n7⟩:=nd
  have l1:b1<w.heap.size:=hl1 _ (by simp)
  have l2:b2<w.heap.size:=hl1 _ (by simp)
  have lg:g<w.heap.size:=hl1 _ (by simp)
  have lo:∀b∈aC vo,b<w.heap.size:=fun b hb=>hl1 b (by simp [hb])
  have hym:y∈l∧y.id=id:=by
   rw [hP.inv.ent] at hy
   exact ⟨List.mem_of_find?_eq_some hy,by have:=List.find?_some hy;exact of_decide_eq_true this⟩
  have hins:=(nD (hG0.ok y hym.1).check).ins
  clear xB x10 a30 a10 r10 r30 q10 rg
  refine aOt (KE:=sK) (F:=eD) (M:=dS g b1 b2 vo) (k:=id) rfl rfl mB (by simp) rfl rfl (fun w11 c11 m11=>?_)
  have ag11:=agB.chg c11 (by simp;omega)
  have a311:=a3B.chg c11 (by simp;omega)
  have a911:=a9B.chg c11 (by simp;omega)
  have p11:=pB.chg c11 (by simp;omega)
  have o11:=oB.chg c11 (fun b hb h=>by simp at h;subst h;exact n5 hb)
  have q11:=qB.step (M':=dS g b1 b2 vo) c11 (fun b hb=>by simp at hb;subst hb;exact .inl (by simp)) (fun _ h=>.inl h)
  have r911:Row w11 ⟨b9,0,none⟩ (bE y iv ov):=Row.of_at a911
  have C11:Chg (dS g b1 b2 vo) w w11:=(xwB.chg c11).mono (fun b hb=>by simp at hb;subst hb;exact .inl (by simp))
  have sB11:w.heap.size≤w11.heap.size:=nTr sB c11.size
  clear agB a3B a9B pB oB mB qB c11 xwB
  repeat' (first|refine go1 ?_|refine zg λ_ _=>?_|refine zi λ_ _=>?_|refine zL rfl (fun h=>?_) (fun h=>?_)|refine zG (E:=inR) (M:=dS g b1 b2 vo) (l:=y.tx.ins) rfl (SlR.ext q11 (by exact fx)) ?_|(refine aJ (fun (i:Nat) w'=>Chg [b2] w11 w'∧i≤y.tx.ins.length∧dB ptK Value.string w' b2 (aBw sp (y.tx.ins.take i))) (fun i=> [(0,.pointer (some ⟨g,0,none⟩)),(3,.pointer (some ⟨b3,0,none⟩)),(29,iv),(30,.int .i64 (y.tx.ins.length:Nat)),(31,.int .i64 i)]) (fun i=>y.tx.ins.length - i) 0 ⟨rfl,rfl,rfl,rfl,rfl,trivial⟩ ⟨(show Ext w11 _ by exact fx).mono (by simp),by simp,dB.ext (by exact fx) p11⟩ ?_;rintro i ρ w3 ⟨x3,hi,hmp⟩))
  ·have hi3:SlR inR (dS g b1 b2 vo) w3 iv y.tx.ins:=q11.step x3 (fun b hb=>.inl (by simp at hb;simp [hb])) (fun _ h=>.inl h)
   have rg3:Row w3 ⟨g,0,none⟩ [.map (some b1),vo,.map (some b2)]:=Row.of_at (ag11.chg x3 (by simp;omega))
   clear r911
   repeat' (first|refine go1 ?_|refine zg λ_ _=>?_|refine zi λ_ _=>?_|(refine aR (d:=some 33) (E:=inR) (M:=dS g b1 b2 vo) rfl rfl (n:=i) (l:=y.tx.ins) (SlR.ext hi3 (by exact fx)) rfl (by omega) (fun ad cs r4 he=>?_);obtain ⟨wv,rfl,hw,hp5,hp6⟩:=he;obtain ⟨bs1,cp1,rfl⟩:=hw.form;have hil:i<y.tx.ins.length:=(by omega))|refine zE (d':=8) (fun _=>rfl) rfl rfl rfl (fun b8 w8 x8 a8 (r8:Row w8 ⟨b8,0,none⟩ (fS y.tx.ins[i] (.slice bs1 y.tx.ins[i].wit.length cp1))) hb8=>?_)|(refine aDv (E:=ptK) (fv:=Value.string) (k:=y.tx.ins[i].p) rfl rfl (dB.ext (w:=w3) (by exact fx) hmp) rfl rfl (fun w5 c5 m5=>?_);have x35:Chg [b2] w3 w5:=Ext.chg (by exact fx) c5))
   exact ⟨i+1,⟨rfl,rfl,rfl,rfl,rfl,trivial⟩,⟨(x3.trans x35).mono (by simp),by omega,by rw [aLr hil];exact m5⟩,by omega⟩
  ·have ei:i=y.tx.ins.length:=by omega
   subst ei
   rw [tLe (Nat.le_refl _)] at hmp
   have ag3:=ag11.chg x3 (by simp;omega)
   have rg3:Row w3 ⟨g,0,none⟩ [.map (some b1),vo,.map (some b2)]:=Row.of_at ag3
   have a33:=a311.chg x3 (by simp;omega)
   have o3:=o11.chg x3 (fun b hb h=>by simp at h;subst h;exact n6 hb)
   have m3:=m11.step (M':=dS g b1 b2 vo) x3 (by simp;omega) (fun b hb=>.inl (by simp at hb;simp [hb])) (fun _ h=>.inl h)
   have C3:Chg (dS g b1 b2 vo) w w3:=(C11.trans x3).mono (fun b hb=>by simp at hb ⊢;grind)
   have s3:=x3.size
   clear q11 r911 ag11 a311 a911 p11 o11 m11 C11
   repeat' (first|refine go1 ?_|refine zg λ_ _=>?_|refine zi λ_ _=>?_|(refine zC rfl (aO7 (g:=F.graph_Graph_Drop_1) (capl:= [.pointer (some ⟨b3,0,none⟩)]) (l:=l.map (fun x:Ent=>x.id)) (B:=B) _ (fun s=>decide (s=id)) aXm (Own.ext (w:=w3) (by exact fx) o3) (by simp;omega) (fun W s hW=>aOl s W (At.chg hW (At.ext (w:=w3) (by exact fx) a33) (fun h=>by have:=lo _ h;omega)))) ?_;rintro v6 w6 ⟨o6,c6,hb6⟩;have c36:Chg (aC vo) w3 w6:=Ext.chg (by exact fx) c6;have hv1:v6.oneCell'=true:=(by obtain ⟨_,_,e⟩:=o6.sl.form;rw [e];rfl)))
   refine bC (b:=g) (o:=1) (v:=v6) rfl rfl hv1 (ag3.chg c36 n3) (by simp) (fun w14 c14 ag14=>?_)
   have ag14:At w14 g (.cells [.map (some b1),v6,.map (some b2)].toArray T.graph_Graph (0,0)):=ag14
   repeat (first|refine go1 ?_|refine zg λ_ _=>?_|refine zi λ_ _=>?_)
   have nb2:b2∉aC v6:=fun h=>n6 (hb6 _ h)
   have nb1:b1∉aC v6:=fun h=>n5 (hb6 _ h)
   have nbg:g∉aC v6:=fun h=>n3 (hb6 _ h)
   have hM':∀b∈dS g b1 b2 v6,b∈dS g b1 b2 vo:=fun b hb=>by
    simp only [List.mem_cons] at hb ⊢
    rcases hb with rfl|rfl|rfl|hb
    ·exact .inl rfl
    ·exact .inr (.inl rfl)
    ·exact .inr (.inr (.inl rfl))
    ·exact .inr (.inr (.inr (hb6 b hb)))
   have m6:=m3.step (M':=dS g b1 b2 v6) c36 n5 (fun b hb=>.inl (by simp [hb])) (fun b hb=>.inl (hM' b hb))
   have m14:=m6.step (M':=dS g b1 b2 v6) c14 (by simp;omega) (fun b hb=>by simp at hb;subst hb;exact .inl (by simp)) (fun _ h=>.inl h)
   have p14:=(hmp.chg c36 n6).chg c14 (by simp;omega)
   have hC:Chg (dS g b1 b2 vo) w w14:=((C3.trans c36).trans c14).mono (fun b hb=>by simp at hb ⊢;grind)
   obtain ⟨hym,rfl⟩:=hym
   obtain ⟨n,hnl,rfl⟩:=List.getElem_of_mem hym
   have hfi:bQ l l[n].id=n:=by
    unfold bQ
    exact idxOf_hit hnl (dTr rfl) (fun j hj=>dFa fun e=>by
     have:=kX hG0.nodup (show j<l.length by omega) hnl (by rw [bY (by omega),bY hnl];exact e)
     omega)
   have ed:cF l l[n].id=(l.filter fun z=>!decide (z.id=l[n].id),0):=by
    rw [cF,if_neg (by rw [hfi];omega),hfi,Int.toNat_natCast,aH4 hG0.nodup hnl rfl]
   rw [ed]
   have e6:(l.map (·.id)).filter (fun s=>!decide (s=l[n].id))=(l.filter fun z=>!decide (z.id=l[n].id)).map (·.id):=by
    rw [List.filter_map];rfl
   rw [e6] at o6
   refine aA rfl ⟨_,rfl,⟨b1,v6,b2,_,_,⟨ag14,m14,p14,?_,hP.inv.del hym,?_,hP.lo⟩,rfl⟩,hC,fun b hb=>.inl (hM' b hb),fun h=>absurd rfl h⟩
   ·exact o6.chg c14 (fun b hb h=>by simp at h;subst h;exact nbg hb)
   ·simp only [List.nodup_cons,List.mem_cons,not_or]
    exact ⟨⟨n1,n2,nbg⟩,⟨n4,nb1⟩,nb2,aCw v6⟩
 ·have hf:bQ l id<0:=by
   rw [hP.inv.ent] at hno
   rcases Int.lt_or_le (bQ l id) 0 with h1|h1
   ·exact h1
   ·have h2:=mS (p:=fun x:Ent=>decide (x.id=id)) (l:=l)
    have h3:l.any (fun x=>decide (x.id=id))=true:=by rw [←h2];unfold bQ at h1;exact dTr h1
    obtain ⟨z,hz,h4⟩:=List.any_eq_true.1 h3
    exact absurd h4 (List.find?_eq_none.1 hno z hz)
  rw [cF,if_pos hf]
  exact aA rfl ⟨_,rfl,hG0.ext x10,x10.mono (by simp),fun b hb=>.inl hb,fun _=>x10⟩
theorem bCu {B g:Nat} {M:List Nat} {l:List Ent} (id:ByteArray) (w:World) (hG:Gr w B g M l) (hn:l.length≤1000):K.Spec Tryz.prog F.graph_Graph_Drop [.pointer (some ⟨g,0,none⟩),.string id] w fun r w'=>
  ∃M',r=.int .i64 (cF l id).2∧Gr w' B g M' (cF l id).1∧Chg M w w'∧∀b∈M',b∈M∨w.heap.size≤b:=
 dO (bH4 id w hG hn) fun _ _ ⟨M',h1,h2,h3,h4,_⟩=>⟨M',h1,h2,h3,h4⟩
end
section
open Go Go.K
attribute [local irreducible] aH aM aY KOp.wp K.Spec u32 leS vnS str aP cM bK idT aQ aG aN idN bG cL cB bQ
theorem Gr.both {w:World} {B g:Nat} {M U:List Nat} {l:List Ent} (hG:Gr w B g M l) (hU:GrR w g (U++M) l):∃b1 vo b2 m sp,GrP w B g b1 vo b2 m sp l∧M=dS g b1 b2 vo∧nG sK eD (U++M) w b1 m:=by
 obtain ⟨b1,vo,b2,m,sp,P,rfl⟩:=hG
 obtain ⟨b1',vo',b2',m',sp',Q⟩:=hU
 have e: [Value.map (some b1),vo,.map (some b2)]= [.map (some b1'),vo',.map (some b2')]:=by
  have h1:=P.at_
  have h2:=Q.at_
  unfold At at h1 h2
  rw [h1] at h2
  simpa using h2
 simp only [List.cons.injEq,Value.map.injEq,Option.some.injEq,and_true] at e
 obtain ⟨rfl,rfl,rfl⟩:=e
 exact ⟨b1,vo,b2,m',sp',⟨P.at_,Q.ents.step (Chg.refl [] _) (by simp) (by simp) (fun b hb=>.inl (List.mem_append_right _ hb)),Q.pts,P.ord,Q.inv,P.nd,P.lo⟩,rfl,Q.ents⟩
structure GrU (w:World) (B g:Nat) (M U:List Nat) (l:List Ent):Prop where
 gr:Gr w B g M l
 rd:GrR w g (U++M) l
 dj:∀b∈M,b∉U
theorem GrU.ext {w w':World} {B g:Nat} {M U:List Nat} {l:List Ent} (h:GrU w B g M U l) (c:Ext w w'):GrU w' B g M U l:=⟨h.gr.ext c,h.rd.ext c,h.dj⟩
theorem GrU.of {w:World} {B g:Nat} {M:List Nat} {l:List Ent} (h:Gr w B g M l):GrU w B g M [] l:=⟨h,h.r,by simp⟩
theorem GrU.more {w w':World} {B g:Nat} {M U U':List Nat} {l:List Ent} (h:GrU w B g M U l) (c:Ext w w') (hU:∀b∈U',b∈U∨w.heap.size≤b):GrU w' B g M U' l:=
 ⟨h.gr.ext c,h.rd.more c (fun b hb=>(List.mem_append.1 hb).elim (fun h1=>(hU b h1).imp (fun h2=>List.mem_append_left _ h2) id) (fun h1=>.inl (List.mem_append_right _ h1))),fun b hb h1=>(hU b h1).elim (h.dj b hb) (fun h2=>by have:=h.gr.lt b hb;omega)⟩
theorem GrU.chg {w w':World} {B g:Nat} {M U U':List Nat} {l:List Ent} (h:GrU w B g M U l) (c:Chg U w w') (hU:∀b∈U',b∈U∨w.heap.size≤b):GrU w' B g M U' l:=by
 have hlt:=h.gr.lt
 obtain ⟨b1,vo,b2,m,sp,P,rfl,q⟩:=Gr.both h.gr h.rd
 have dj:=h.dj
 have n1:=dj g (by simp)
 have n2:=dj b1 (by simp)
 have n3:=dj b2 (by simp)
 have o:=P.ord.chg c fun b hb h=>dj b (by simp [hb]) h
 have a:=P.at_.chg c n1
 have pp:=P.pts.chg c n3
 have e1:∀b∈U'++dS g b1 b2 vo,b∈U++dS g b1 b2 vo∨w.heap.size≤b:=fun b hb=>(List.mem_append.1 hb).elim (fun h1=>(hU b h1).imp (fun h2=>List.mem_append_left _ h2) id) (fun h1=>.inl (List.mem_append_right _ h1))
 have mm:=q.step (M':=U'++dS g b1 b2 vo) c n2 (fun b hb=>.inl (List.mem_append_left _ hb)) e1
 have m0:=q.step (M':=dS g b1 b2 vo) c n2 (fun b hb=>.inl (List.mem_append_left _ hb)) (fun b hb=>.inl (List.mem_append_right _ hb))
 exact ⟨⟨b1,vo,b2,m,sp,⟨a,m0,pp,o,P.inv,P.nd,P.lo⟩,rfl⟩,⟨b1,vo,b2,m,sp,⟨a,mm,pp,o.sl,P.inv⟩⟩,fun b hb h1=>(hU b h1).elim (dj b hb) (fun h2=>by have:=hlt b hb;omega)⟩
set_option maxHeartbeats 2000000 in
theorem bNw {B g:Nat} {M U:List Nat} {l:List Ent} (id:ByteArray) (w:World) (hG:Gr w B g M l) (hU:GrR w g (U++M) l) (hn:l.length≤1000):K.Spec Tryz.prog F.graph_Graph_Drop [.pointer (some ⟨g,0,none⟩),.string id] w fun r w'=>
  ∃M',r=.int .i64 (cF l id).2∧Gr w' B g M' (cF l id).1∧Chg M w w'∧(∀b∈M',b∈M∨w.heap.size≤b)∧GrR w' g (U++M') (cF l id).1:=by
 have hG0:=hG
 obtain ⟨b1,vo,b2,m,sp,hP,rfl,hu1⟩:=Gr.both hG hU
 have rg:Row w ⟨g,0,none⟩ [.map (some b1),vo,.map (some b2)]:=Row.of_at hP.at_
 have hq1:=hP.ents
 have hl1:=Gr.lt hG0
 refine tY rfl ?_
 unfold lN
 refine oy ?_
 repeat' (first|refine go1 ?_|refine zg λ_ _=>?_|refine zi λ_ _=>?_|refine zM rfl (fun h=>?_) (fun h=>?_)|refine zD rfl rfl (fun b3 wp xp a3 (r3:Row wp ⟨b3,0,none⟩ [.string id]) hp0=>?_)|refine aAy (d:=some 17) (KE:=sK) (F:=eD) (M:=dS g b1 b2 vo) (k:=id) rfl rfl (by exact fx) rfl rfl (fun y cs hy hr=>?_) (fun hno=>?_)|(refine zH (d:=some 5) (fun b9 w9 x9 a9 hb9=>?_);have s9:w.heap.size≤b9:=nTr (Ext.size (w:=w) (by exact fx)) hb9;have s39:wp.heap.size≤b9:=nTr (Ext.size (w:=wp) (by exact fx)) hb9)|(obtain ⟨iv,ov,rfl,q1,q2,q3⟩:=hr;have i1:=q1.one;have i2:=q2.one;refine aW (w0:=w) (vs:=bE y iv ov) (by exact fx) s9 (by exact atx) rfl rfl rfl rfl (by simp [bE,i1,i2];exact ⟨rfl,rfl,rfl,rfl,rfl⟩) (fun w10 x10 c10 a10 r10=>?_);have l3:=a3.lt;have a30:At w10 b3 (.cells [.string id].toArray T.string (0,0)):=At.chg c10 (At.ext (show Ext wp w9 by exact fx) a3) (by simp;omega);have r30:Row w10 ⟨b3,0,none⟩ [.string id]:=Row.of_at a30;have q10:SlR inR (dS g b1 b2 vo) w10 iv y.tx.ins:=(q1.step (M':=b9::dS g b1 b2 vo) x9 (by simp) (fun b hb=>by rcases List.mem_cons.1 hb with h|h;(subst h;exact .inr hb9);exact .inl h)).step c10 (by intro q hq;simp at hq;subst hq;exact .inl (by simp)) (fun _ h=>.inl (by simp [h]));clear c10 q1 q2 a9 x9 hb9 s39 xp a3 r3)|refine aW (w0:=w) (vs:=zR) (by exact fx) s9 (by exact atx) rfl rfl rfl rfl rfl (fun w10 x10 c10 a10 r10=>?_))
 ·clear ‹Ext wp _›
  rename_i wB xB
  have xwB:Ext w wB:=x10.trans xB
  have a3B:=a30.ext xB
  have a9B:=a10.ext xB
  have agB:=hP.at_.ext xwB
  have mB:=hq1.ext xwB
  have uB:=hu1.ext xwB
  have pB:=hP.pts.ext xwB
  have oB:=hP.ord.ext xwB
  have qB:=q10.ext xB
  have sB:=xwB.size
  have nd:=hP.nd
  simp only [List.nodup_cons,List.mem_cons,not_or] at nd
  obtain ⟨⟨n1,n2,n3⟩,⟨n4,n5⟩,n6,n7⟩:=nd
  have l1:b1<w.heap.size:=hl1 _ (by simp)
  have l2:b2<w.heap.size:=hl1 _ (by simp)
  have lg:g<w.heap.size:=hl1 _ (by simp)
  have lo:∀b∈aC vo,b<w.heap.size:=fun b hb=>hl1 b (by simp [hb])
  have hym:y∈l∧y.id=id:=by
   rw [hP.inv.ent] at hy
   exact ⟨List.mem_of_find?_eq_some hy,by have:=List.find?_some hy;exact of_decide_eq_true this⟩
  have hins:=(nD (hG0.ok y hym.1).check).ins
  clear xB x10 a30 a10 r10 r30 q10 rg
  refine aOt (KE:=sK) (F:=eD) (M:=U++dS g b1 b2 vo) (k:=id) rfl rfl uB (by simp) rfl rfl (fun w11 c11 m11=>?_)
  have ag11:=agB.chg c11 (by simp;omega)
  have a311:=a3B.chg c11 (by simp;omega)
  have a911:=a9B.chg c11 (by simp;omega)
  have p11:=pB.chg c11 (by simp;omega)
  have o11:=oB.chg c11 (fun b hb h=>by simp at h;subst h;exact n5 hb)
  have q11:=qB.step (M':=dS g b1 b2 vo) c11 (fun b hb=>by simp at hb;subst hb;exact .inl (by simp)) (fun _ h=>.inl h)
  have r911:Row w11 ⟨b9,0,none⟩ (bE y iv ov):=Row.of_at a911
  have C11:Chg (dS g b1 b2 vo) w w11:=(xwB.chg c11).mono (fun b hb=>by simp at hb;subst hb;exact .inl (by simp))
  have sB11:w.heap.size≤w11.heap.size:=nTr sB c11.size
  clear agB a3B a9B pB oB mB uB qB c11 xwB
  repeat' (first|refine go1 ?_|refine zg λ_ _=>?_|refine zi λ_ _=>?_|refine zL rfl (fun h=>?_) (fun h=>?_)|refine zG (E:=inR) (M:=dS g b1 b2 vo) (l:=y.tx.ins) rfl (SlR.ext q11 (by exact fx)) ?_|(refine aJ (fun (i:Nat) w'=>Chg [b2] w11 w'∧i≤y.tx.ins.length∧dB ptK Value.string w' b2 (aBw sp (y.tx.ins.take i))) (fun i=> [(0,.pointer (some ⟨g,0,none⟩)),(3,.pointer (some ⟨b3,0,none⟩)),(29,iv),(30,.int .i64 (y.tx.ins.length:Nat)),(31,.int .i64 i)]) (fun i=>y.tx.ins.length - i) 0 ⟨rfl,rfl,rfl,rfl,rfl,trivial⟩ ⟨(show Ext w11 _ by exact fx).mono (by simp),by simp,dB.ext (by exact fx) p11⟩ ?_;rintro i ρ w3 ⟨x3,hi,hmp⟩))
  ·have hi3:SlR inR (dS g b1 b2 vo) w3 iv y.tx.ins:=q11.step x3 (fun b hb=>.inl (by simp at hb;simp [hb])) (fun _ h=>.inl h)
   have rg3:Row w3 ⟨g,0,none⟩ [.map (some b1),vo,.map (some b2)]:=Row.of_at (ag11.chg x3 (by simp;omega))
   clear r911
   repeat' (first|refine go1 ?_|refine zg λ_ _=>?_|refine zi λ_ _=>?_|(refine aR (d:=some 33) (E:=inR) (M:=dS g b1 b2 vo) rfl rfl (n:=i) (l:=y.tx.ins) (SlR.ext hi3 (by exact fx)) rfl (by omega) (fun ad cs r4 he=>?_);obtain ⟨wv,rfl,hw,hp5,hp6⟩:=he;obtain ⟨bs1,cp1,rfl⟩:=hw.form;have hil:i<y.tx.ins.length:=(by omega))|refine zE (d':=8) (fun _=>rfl) rfl rfl rfl (fun b8 w8 x8 a8 (r8:Row w8 ⟨b8,0,none⟩ (fS y.tx.ins[i] (.slice bs1 y.tx.ins[i].wit.length cp1))) hb8=>?_)|(refine aDv (E:=ptK) (fv:=Value.string) (k:=y.tx.ins[i].p) rfl rfl (dB.ext (w:=w3) (by exact fx) hmp) rfl rfl (fun w5 c5 m5=>?_);have x35:Chg [b2] w3 w5:=Ext.chg (by exact fx) c5))
   exact ⟨i+1,⟨rfl,rfl,rfl,rfl,rfl,trivial⟩,⟨(x3.trans x35).mono (by simp),by omega,by rw [aLr hil];exact m5⟩,by omega⟩
  ·have ei:i=y.tx.ins.length:=by omega
   subst ei
   rw [tLe (Nat.le_refl _)] at hmp
   have ag3:=ag11.chg x3 (by simp;omega)
   have rg3:Row w3 ⟨g,0,none⟩ [.map (some b1),vo,.map (some b2)]:=Row.of_at ag3
   have a33:=a311.chg x3 (by simp;omega)
   have o3:=o11.chg x3 (fun b hb h=>by simp at h;subst h;exact n6 hb)
   have m3:=m11.step (M':=U++dS g b1 b2 vo) x3 (by simp;omega) (fun b hb=>.inl (by simp at hb;simp [hb])) (fun _ h=>.inl h)
   have C3:Chg (dS g b1 b2 vo) w w3:=(C11.trans x3).mono (fun b hb=>by simp at hb ⊢;grind)
   have s3:=x3.size
   clear q11 r911 ag11 a311 a911 p11 o11 m11 C11
   repeat' (first|refine go1 ?_|refine zg λ_ _=>?_|refine zi λ_ _=>?_|(refine zC rfl (aO7 (g:=F.graph_Graph_Drop_1) (capl:= [.pointer (some ⟨b3,0,none⟩)]) (l:=l.map (fun x:Ent=>x.id)) (B:=B) _ (fun s=>decide (s=id)) aXm (Own.ext (w:=w3) (by exact fx) o3) (by simp;omega) (fun W s hW=>aOl s W (At.chg hW (At.ext (w:=w3) (by exact fx) a33) (fun h=>by have:=lo _ h;omega)))) ?_;rintro v6 w6 ⟨o6,c6,hb6⟩;have c36:Chg (aC vo) w3 w6:=Ext.chg (by exact fx) c6;have hv1:v6.oneCell'=true:=(by obtain ⟨_,_,e⟩:=o6.sl.form;rw [e];rfl)))
   refine bC (b:=g) (o:=1) (v:=v6) rfl rfl hv1 (ag3.chg c36 n3) (by simp) (fun w14 c14 ag14=>?_)
   have ag14:At w14 g (.cells [.map (some b1),v6,.map (some b2)].toArray T.graph_Graph (0,0)):=ag14
   repeat (first|refine go1 ?_|refine zg λ_ _=>?_|refine zi λ_ _=>?_)
   have nb2:b2∉aC v6:=fun h=>n6 (hb6 _ h)
   have nb1:b1∉aC v6:=fun h=>n5 (hb6 _ h)
   have nbg:g∉aC v6:=fun h=>n3 (hb6 _ h)
   have hM':∀b∈dS g b1 b2 v6,b∈dS g b1 b2 vo:=fun b hb=>by
    simp only [List.mem_cons] at hb ⊢
    rcases hb with rfl|rfl|rfl|hb
    ·exact .inl rfl
    ·exact .inr (.inl rfl)
    ·exact .inr (.inr (.inl rfl))
    ·exact .inr (.inr (.inr (hb6 b hb)))
   have hMU:∀b∈U++dS g b1 b2 v6,b∈U++dS g b1 b2 vo:=fun b hb=>(List.mem_append.1 hb).elim (fun h=>List.mem_append_left _ h) (fun h=>List.mem_append_right _ (hM' b h))
   have m6:=m3.step (M':=U++dS g b1 b2 v6) c36 n5 (fun b hb=>.inl (by simp [hb])) (fun b hb=>.inl (hMU b hb))
   have m14:=m6.step (M':=U++dS g b1 b2 v6) c14 (by simp;omega) (fun b hb=>by simp at hb;subst hb;exact .inl (by simp)) (fun _ h=>.inl h)
   have p14:=(hmp.chg c36 n6).chg c14 (by simp;omega)
   have hC:Chg (dS g b1 b2 vo) w w14:=((C3.trans c36).trans c14).mono (fun b hb=>by simp at hb ⊢;grind)
   obtain ⟨hym,rfl⟩:=hym
   obtain ⟨n,hnl,rfl⟩:=List.getElem_of_mem hym
   have hfi:bQ l l[n].id=n:=by
    unfold bQ
    exact idxOf_hit hnl (dTr rfl) (fun j hj=>dFa fun e=>by
     have:=kX hG0.nodup (show j<l.length by omega) hnl (by rw [bY (by omega),bY hnl];exact e)
     omega)
   have ed:cF l l[n].id=(l.filter fun z=>!decide (z.id=l[n].id),0):=by
    rw [cF,if_neg (by rw [hfi];omega),hfi,Int.toNat_natCast,aH4 hG0.nodup hnl rfl]
   rw [ed]
   have e6:(l.map (·.id)).filter (fun s=>!decide (s=l[n].id))=(l.filter fun z=>!decide (z.id=l[n].id)).map (·.id):=by
    rw [List.filter_map];rfl
   rw [e6] at o6
   have o14:=o6.chg c14 (fun b hb h=>by simp at h;subst h;exact nbg hb)
   have m15:=m14.step (M':=dS g b1 b2 v6) (Chg.refl [] _) (by simp) (by simp) (fun b hb=>.inl (List.mem_append_right _ hb))
   refine aA rfl ⟨_,rfl,⟨b1,v6,b2,_,_,⟨ag14,m15,p14,o14,hP.inv.del hym,?_,hP.lo⟩,rfl⟩,hC,fun b hb=>.inl (hM' b hb),⟨b1,v6,b2,_,_,⟨ag14,m14,p14,o14.sl,hP.inv.del hym⟩⟩⟩
   ·simp only [List.nodup_cons,List.mem_cons,not_or]
    exact ⟨⟨n1,n2,nbg⟩,⟨n4,nb1⟩,nb2,aCw v6⟩
 ·have hf:bQ l id<0:=by
   rw [hP.inv.ent] at hno
   rcases Int.lt_or_le (bQ l id) 0 with h1|h1
   ·exact h1
   ·have h2:=mS (p:=fun x:Ent=>decide (x.id=id)) (l:=l)
    have h3:l.any (fun x=>decide (x.id=id))=true:=by rw [←h2];unfold bQ at h1;exact dTr h1
    obtain ⟨z,hz,h4⟩:=List.any_eq_true.1 h3
    exact absurd h4 (List.find?_eq_none.1 hno z hz)
  rw [cF,if_pos hf]
  exact aA rfl ⟨_,rfl,hG0.ext x10,x10.mono (by simp),fun b hb=>.inl hb,hU.ext x10⟩
theorem aZ3 {B g:Nat} {M U:List Nat} {l:List Ent} (id:ByteArray) (w:World) (hG:GrU w B g M U l) (hU:∀b∈U,b<w.heap.size) (hn:l.length≤1000):K.Spec Tryz.prog F.graph_Graph_Drop [.pointer (some ⟨g,0,none⟩),.string id] w fun r w'=>
  ∃M',r=.int .i64 (cF l id).2∧GrU w' B g M' U (cF l id).1∧Chg M w w'∧∀b∈M',b∈M∨w.heap.size≤b:=
 dO (bNw id w hG.gr hG.rd hn) fun _ _ ⟨M',h1,h2,h3,h4,h5⟩=>⟨M',h1,⟨h2,h5,fun b hb h=>(h4 b hb).elim (fun h6=>hG.dj b h6 h) (fun h6=>by have:=hU b h;omega)⟩,h3,h4⟩
end
section
open Go Go.K
attribute [local irreducible] aH aM aY KOp.wp K.Spec u32 leS vnS str aP cM bK idT aQ aG aN idN bG cL cB bQ fM
set_option maxHeartbeats 2000000 in
theorem bPn {B g:Nat} {M N U:List Nat} {l:List Ent} {cs:List Value} {t:Tx} (fee:Int) (w:World) (hG:Gr w B g M l) (hU:GrR w g (U++M) l) (hUN:∀b∈U,b∈N) (ht:txR.rel N w cs t) (hs:t.Sm) (hf:rT fee) (hN:∀b∈N,b<w.heap.size) (hMN:∀b∈M,b∈N) (hn:l.length≤1000):K.Spec Tryz.prog F.graph_Graph_Add [.pointer (some ⟨g,0,none⟩),.agg cs.toArray,.int .i64 fee] w fun r w'=>
  ∃M',r=.int .i64 (fM l t fee).2∧Gr w' B g M' (fM l t fee).1∧Chg M w w'∧(∀b∈M',b∈M∨w.heap.size≤b)∧GrR w' g (U++M') (fM l t fee).1:=by
 have hG0:=hG
 obtain ⟨b1,vo,b2,m,sp,hP,rfl,hu1⟩:=Gr.both hG hU
 have rg:Row w ⟨g,0,none⟩ [.map (some b1),vo,.map (some b2)]:=Row.of_at hP.at_
 have hq1:=hP.ents
 have hq2:=hP.pts
 have ht0:=ht
 obtain ⟨iv,ov,rfl,h1,h2,h3⟩:=ht
 by_cases he0:kV t fee=0
 ·refine vS rfl ?_
  unfold nP
  refine oy ?_
  repeat' (first|refine go1 ?_|refine zg λ_ _=>?_|refine zi λ_ _=>?_|refine zL rfl (fun h=>absurd h (by decide)) (fun h=>?_)|refine zD rfl rfl (fun bp wp xp ap (rp:Row wp ⟨bp,0,none⟩ (aK t iv ov)) hp0=>?_)|(refine zC rfl (aO4 (M:=N) (cs:=aK t iv ov) (t:=t) fee _ (by exact fx) hs hf (fun b hb=>nLt (hN b hb) (Ext.size (by exact fx)))) ?_;rintro _ w5 ⟨ds,rfl,d1,d2,d3,x5⟩;obtain ⟨hok,he5⟩:=d3 he0;rw [he0];clear d3;generalize hxe:(⟨t,idT t,fee,(aQ t:Nat)⟩:Ent)=x at hok he5 d1 d2 ⊢;have htx:x.tx=t:=(by rw [←hxe]);have hid:x.id=idT t:=(by rw [←hxe]);have he5':=he5;obtain ⟨iv5,ov5,rfl,o1,o2,o3⟩:=he5)|refine zE (d':=7) (fun _=>rfl) rfl rfl d2 (fun b7 w7 x7 a7 (r7:Row w7 ⟨b7,0,none⟩ (bE x iv5 ov5)) hb7=>?_)|refine aAy (d:=some 35) (KE:=sK) (F:=eD) (M:=dS g b1 b2 vo) (k:=x.id) rfl rfl (by exact fx) rfl rfl (fun y cs hy hr=>?_) (fun hno=>?_)|(refine zH (d:=some 9) (fun b9 w9 x9 a9 hb9=>?_);have s9:w.heap.size≤b9:=nTr (Ext.size (w:=w) (by exact fx)) hb9;have s79:w7.heap.size≤b9:=nTr (Ext.size (w:=w7) (by exact fx)) hb9)|(obtain ⟨iv9,ov9,rfl,q1,q2,q3⟩:=hr;have i1:=q1.one;have i2:=q2.one;refine aW (w0:=w) (vs:=bE y iv9 ov9) (by exact fx) s9 (by exact atx) rfl rfl rfl rfl (by simp [bE,i1,i2];exact ⟨rfl,rfl,rfl,rfl,rfl⟩) (fun w10 x10 c10 a10 r10=>?_);clear q1 q2)|refine aW (w0:=w) (vs:=zR) (by exact fx) s9 (by exact atx) rfl rfl rfl rfl rfl (fun w10 x10 c10 a10 r10=>?_)|refine zG (E:=inR) (M:=N) (l:=t.ins) rfl (SlR.ext h1 (by exact fx)) ?_)
  ·rw [hP.inv.ent] at hy
   have hany:l.any (fun x=>decide (x.id=idT t))=true:=by
    rw [List.any_eq_true]
    exact ⟨y,List.mem_of_find?_eq_some hy,by have:=List.find?_some hy;rw [←hid];exact this⟩
   rw [aJb he0 (fun _ _ _=>trivial),if_pos hany]
   exact aA rfl ⟨_,rfl,hG0.ext x10,x10.mono (by simp),fun b hb=>.inl hb,hU.ext x10⟩
  ·have l7:=a7.lt
   have lp:=ap.lt
   have s5:=x5.size
   have s7:=x7.size
   have sp:=xp.size
   have ap0:=At.chg c10 (At.ext (show Ext wp w9 by exact fx) ap) (by simp;omega)
   have a70:=At.chg c10 (At.ext (show Ext w7 w9 by exact fx) a7) (by simp;omega)
   have x59:Ext w5 w9:=by exact fx
   have k1:=o1.lt
   have k2:=o2.lt
   have e10:eD.rel N w10 (bE x iv5 ov5) x:=by
    have n1:b9∉aC iv5:=fun h=>by have:=k1 _ h;omega
    have n2:b9∉aC ov5:=fun h=>by have:=k2 _ h;omega
    have p1:=(o1.step (M':=b9::N) x59 (by simp) (fun b hb=>by rcases List.mem_cons.1 hb with h|h;(right;omega);exact .inl h)).step (M':=N) c10 (by intro y hy;simp at hy;subst hy;exact ⟨n1,.inl (by simp)⟩) (fun _ h=>.inl (by simp [h]))
    have p2:=(o2.step (M':=b9::N) x59 (by simp) (fun b hb=>by rcases List.mem_cons.1 hb with h|h;(right;omega);exact .inl h)).step (M':=N) c10 (by intro y hy;simp at hy;subst hy;exact ⟨n2,.inl (by simp)⟩) (fun _ h=>.inl (by simp [h]))
    exact aQq.rel (B:=w.heap.size) ⟨iv5,ov5,rfl,p1.lower sp,p2.lower sp,o3⟩ hN
   have rp0:Row w10 ⟨bp,0,none⟩ (aK t iv ov):=Row.of_at ap0
   have r70:Row w10 ⟨b7,0,none⟩ (bE x iv5 ov5):=Row.of_at a70
   have hb7:w.heap.size≤b7:=by omega
   have hbp:=hp0
   have hl1:=Gr.lt hG0
   have hins:=hs.ins
   clear ‹Ext w7 _›
   clear x59 k1 k2 o1 o2 he5' c10 a10 r10 x9 a9 hb9 s9 s79 x7 a7 r7 x5 xp ap rp l7 lp s5 s7 sp hp0
   repeat' (first|refine go1 ?_|refine zg λ_ _=>?_|refine zi λ_ _=>?_|refine zL rfl (fun h=>?_) (fun h=>?_)|refine zG (E:=inR) (M:=N) (l:=t.ins) rfl (SlR.ext h1 (by exact fx)) ?_|(refine aJ (fun (i:Nat) w'=>Ext w10 w'∧i≤t.ins.length∧∀j (hj:j<t.ins.length),j<i→aS sp t.ins[j].p=none) (fun i=> [(0,.pointer (some ⟨g,0,none⟩)),(4,.pointer (some ⟨bp,0,none⟩)),(7,.pointer (some ⟨b7,0,none⟩)),(40,iv),(41,.int .i64 (t.ins.length:Nat)),(42,.int .i64 i)]) (fun i=>t.ins.length - i) 0 ⟨rfl,rfl,rfl,rfl,rfl,rfl,trivial⟩ ⟨by exact fx,by simp,fun j hj h=>by omega⟩ ?_;rintro i ρ w3 ⟨x3,hi,hfr⟩)|(refine aR (d:=some 44) (E:=inR) (M:=N) rfl rfl (n:=i) (l:=t.ins) (SlR.ext h1 (x10.trans x3)) rfl (by omega) (fun ad cs r4 he=>?_);obtain ⟨wv,rfl,hw,hp5,hp6⟩:=he;obtain ⟨bs1,cp1,rfl⟩:=hw.form;have hil:i<t.ins.length:=(by omega))|refine zE (d':=12) (fun _=>rfl) rfl rfl rfl (fun b8 w8 x8 a8 (r8:Row w8 ⟨b8,0,none⟩ (fS t.ins[i] (.slice bs1 t.ins[i].wit.length cp1))) hb8=>?_)|refine mV (d:=some 53) (E:=ptK) (fv:=Value.string) (k:=t.ins[i].p) rfl rfl (dB.ext (w:=w) (by exact fx) hq2) rfl rfl (fun y hy=>?_) (fun hn2=>?_))
   ·rw [hP.inv.spt,Option.map_eq_some_iff] at hy
    obtain ⟨z,hz, -⟩:=hy
    have hany:¬l.any (fun x=>decide (x.id=idT t))=true:=by
     rw [hP.inv.ent] at hno
     rw [List.any_eq_true]
     rintro ⟨y,h1,h2⟩
     exact (List.find?_eq_none.1 hno y h1) (by rw [hid];exact h2)
    have hany2:t.ins.any (fun i=>l.any fun x=>spends x i.p)=true:=List.any_eq_true.2 ⟨_,gMe hil,List.any_eq_true.2 ⟨z,List.mem_of_find?_eq_some hz,(by have:=List.find?_some hz;exact this)⟩⟩
    rw [aJb he0 (fun _ _ _=>trivial),if_neg hany,if_pos hany2]
    have xx:Ext w _:=Ext.trans (x10.trans (x3.trans x8)) (by assumption)
    exact aA rfl ⟨_,rfl,hG0.ext xx,xx.mono (by simp),fun b hb=>.inl hb,hU.ext xx⟩
   ·exact ⟨i+1,⟨rfl,rfl,rfl,rfl,rfl,rfl,trivial⟩,⟨by exact fx,by omega,fun j hj h=>by
     rcases Nat.lt_succ_iff_lt_or_eq.1 h with h5|rfl
     ·exact hfr j hj h5
     ·exact hn2⟩,by omega⟩
   ·rename_i wB xB
    have hfree:∀j (hj:j<t.ins.length),aS sp t.ins[j].p=none:=fun j hj=>hfr j hj (by omega)
    have x0B:=x3.trans xB
    have xwB:Ext w wB:=x10.trans x0B
    have eB:eD.rel (U++dS g b1 b2 vo) wB (bE x iv5 ov5) x:=eD.step e10 x0B (by simp) (fun b hb=>.inl ((List.mem_append.1 hb).elim (hUN b) (hMN b)))
    have apB:=ap0.ext x0B
    have a7B:=a70.ext x0B
    have agB:=hP.at_.ext xwB
    have mB:=hu1.ext xwB
    have pB:=hq2.ext xwB
    have oB:=hP.ord.ext xwB
    have sB:=xwB.size
    have nd:=hP.nd
    simp only [List.nodup_cons,List.mem_cons,not_or] at nd
    obtain ⟨⟨n1,n2,n3⟩,⟨n4,n5⟩,n6,n7⟩:=nd
    have l1:b1<w.heap.size:=hl1 _ (by simp)
    have l2:b2<w.heap.size:=hl1 _ (by simp)
    have lg:g<w.heap.size:=hl1 _ (by simp)
    have lo:∀b∈aC vo,b<w.heap.size:=fun b hb=>hl1 b (by simp [hb])
    clear x3 xB x0B hi x10 ap0 a70 rp0 r70 e10 rg hfr h
    refine aQv (KE:=sK) (F:=eD) (M:=U++dS g b1 b2 vo) (k:=x.id) (v:=x) (cs:=bE x iv5 ov5) rfl rfl rfl mB eB (by simp) rfl rfl (fun w11 c11 m11=>?_)
    have ag11:=agB.chg c11 (by simp;omega)
    have a711:=a7B.chg c11 (by simp;omega)
    have ap11:=apB.chg c11 (by simp;omega)
    have p11:=pB.chg c11 (by simp;omega)
    have o11:=oB.chg c11 (fun b hb h=>by simp at h;subst h;exact n5 hb)
    have rg11:Row w11 ⟨g,0,none⟩ [.map (some b1),vo,.map (some b2)]:=Row.of_at ag11
    have r711:Row w11 ⟨b7,0,none⟩ (bE x iv5 ov5):=Row.of_at a711
    have C11:Chg (dS g b1 b2 vo) w w11:=(xwB.chg c11).mono (fun b hb=>by simp at hb;subst hb;exact .inl (by simp))
    have s11:=c11.size
    have sB11:w.heap.size≤w11.heap.size:=nTr sB s11
    have hBw:B≤w.heap.size:=(by have:=hP.lo;omega)
    clear agB a7B apB pB oB mB eB c11 xwB
    repeat' (first|refine go1 ?_|refine zg λ_ _=>?_|refine zi λ_ _=>?_|refine fG ?_ ?_|refine zI (d:=some 72) (cs:= [.string x.id]) rfl (fun bz wz xz az hbz=>?_))
    all_goals
     refine jY (d:=some 73) (E:=bB) (B:=B) (l:=l.map (fun x:Ent=>x.id)) (l2:= [x.id]) (n:=1) (new:= [.string x.id]) rfl (o11.ext (by exact fx)) (nTr (nTr hBw sB11) (Ext.size (w:=w11) (by exact fx))) rfl rfl (dR (by exact atx) rfl) rfl rfl (by simp only [List.length_map,List.length_cons,List.length_nil];omega) (fun v13 w13 o13 _ c13 hb13=>?_)
     have c1:Chg (aC vo) w11 w13:=Ext.chg (by exact fx) c13
     have hb1:∀b∈aC v13,b∈aC vo∨w11.heap.size≤b:=fun b hb=>(hb13 b hb).imp id (nTr (Ext.size (by exact fx)))
     clear c13 hb13 az hbz xz
     clear ‹Ext w11 _›
     have s13:=c1.size
     have ag13:=ag11.chg c1 n3
     have ap13:=ap11.chg c1 (fun h=>by have:=lo _ h;omega)
     have a713:=a711.chg c1 (fun h=>by have:=lo _ h;omega)
     have p13:=p11.chg c1 n6
     have rg13:Row w13 ⟨g,0,none⟩ [.map (some b1),vo,.map (some b2)]:=Row.of_at ag13
     repeat (first|refine go1 ?_|refine zg λ_ _=>?_|refine zi λ_ _=>?_)
     have hv1:v13.oneCell'=true:=by obtain ⟨_,_,e⟩:=o13.sl.form;rw [e];rfl
     refine bC (b:=g) (o:=1) (v:=v13) rfl rfl hv1 ag13 (by simp) (fun w14 c14 ag14=>?_)
     have ag14:At w14 g (.cells [.map (some b1),v13,.map (some b2)].toArray T.graph_Graph (0,0)):=ag14
     have rg14:Row w14 ⟨g,0,none⟩ [.map (some b1),v13,.map (some b2)]:=Row.of_at ag14
     have a714:=a713.chg c14 (by simp;omega)
     have ap14:=ap13.chg c14 (by simp;omega)
     have r714:Row w14 ⟨b7,0,none⟩ (bE x iv5 ov5):=Row.of_at a714
     have rp14:Row w14 ⟨bp,0,none⟩ (aK t iv ov):=Row.of_at ap14
     have hv3:∀b,b<w.heap.size→b∉aC vo→b∉aC v13:=fun b hb hn h=>by
      rcases hb1 b h with h1|h1
      ·exact hn h1
      ·omega
     have o14:=o13.chg c14 (fun b hb h=>by simp at h;subst h;exact hv3 _ lg n3 hb)
     have p14:=p13.chg c14 (by simp;omega)
     have hM':∀b∈dS g b1 b2 v13,b∈dS g b1 b2 vo∨w11.heap.size≤b:=fun b hb=>by
      simp only [List.mem_cons] at hb ⊢
      rcases hb with rfl|rfl|rfl|hb
      ·exact .inl (.inl rfl)
      ·exact .inl (.inr (.inl rfl))
      ·exact .inl (.inr (.inr (.inl rfl)))
      ·exact (hb1 b hb).imp (fun h=>.inr (.inr (.inr h))) id
     have hMU:∀b∈U++dS g b1 b2 v13,b∈U++dS g b1 b2 vo∨w11.heap.size≤b:=fun b hb=>(List.mem_append.1 hb).elim (fun h=>.inl (List.mem_append_left _ h)) (fun h=>(hM' b h).imp (fun h2=>List.mem_append_right _ h2) id)
     have m13:nG sK eD (U++dS g b1 b2 v13) w13 b1 (fV m x.id x):=m11.step c1 n5 (fun b hb=>.inl (by simp [hb])) hMU
     have m14:=m13.step (M':=U++dS g b1 b2 v13) c14 (by simp;omega) (fun b hb=>by simp at hb;subst hb;exact .inl (by simp)) (fun _ h=>.inl h)
     have C14:Chg (dS g b1 b2 vo) w w14:=((C11.trans c1).trans c14).mono (fun b hb=>by simp at hb ⊢;grind)
     have s14:=c14.size
     have hi14:SlR inR N w14 iv t.ins:=h1.step C14 (fun b hb=>.inl (hMN b hb)) (fun _ h=>.inl h)
     clear ag13 rg13 a713 ap13 o13 p13 m13 c14 c1 m11 ag11 a711 ap11 p11 o11 rg11 r711 C11
     clear ap14
     repeat' (first|refine go1 ?_|refine zg λ_ _=>?_|refine zi λ_ _=>?_|refine zL rfl (fun h=>?_) (fun h=>?_)|refine zG (E:=inR) (M:=N) (l:=t.ins) rfl (SlR.ext hi14 (by exact fx)) ?_|(refine aJ (fun (i:Nat) w'=>Chg [b2] w14 w'∧i≤t.ins.length∧dB ptK Value.string w' b2 (wG sp (t.ins.take i) x.id)) (fun i=> [(0,.pointer (some ⟨g,0,none⟩)),(7,.pointer (some ⟨b7,0,none⟩)),(77,iv),(78,.int .i64 (t.ins.length:Nat)),(79,.int .i64 i)]) (fun i=>t.ins.length - i) 0 ⟨rfl,rfl,rfl,rfl,rfl,trivial⟩ ⟨(show Ext w14 _ by exact fx).mono (by simp),by simp,dB.ext (by exact fx) p14⟩ ?_;rintro i ρ w3 ⟨x3,hi,hmp⟩))
     ·have hi3:SlR inR N w3 iv t.ins:=hi14.step x3 (fun b hb=>.inl (hMN b (by simp at hb;simp [hb]))) (fun _ h=>.inl h)
      have rg3:Row w3 ⟨g,0,none⟩ [.map (some b1),v13,.map (some b2)]:=Row.of_at (ag14.chg x3 (by simp;omega))
      have r73:Row w3 ⟨b7,0,none⟩ (bE x iv5 ov5):=Row.of_at (a714.chg x3 (by simp;omega))
      clear r714 rp14 rg14
      repeat' (first|refine go1 ?_|refine zg λ_ _=>?_|refine zi λ_ _=>?_|(refine aR (d:=some 81) (E:=inR) (M:=N) rfl rfl (n:=i) (l:=t.ins) (SlR.ext hi3 (by exact fx)) rfl (by omega) (fun ad cs r4 he=>?_);obtain ⟨wv,rfl,hw,hp5,hp6⟩:=he;obtain ⟨bs1,cp1,rfl⟩:=hw.form;have hil:i<t.ins.length:=(by omega))|refine zE (d':=16) (fun _=>rfl) rfl rfl rfl (fun b8 w8 x8 a8 (r8:Row w8 ⟨b8,0,none⟩ (fS t.ins[i] (.slice bs1 t.ins[i].wit.length cp1))) hb8=>?_)|(refine eY (E:=ptK) (fv:=Value.string) (k:=t.ins[i].p) (v:=x.id) rfl rfl rfl (dB.ext (w:=w3) (by exact fx) hmp) rfl rfl (fun w5 c5 m5=>?_);have x35:Chg [b2] w3 w5:=Ext.chg (by exact fx) c5))
      exact ⟨i+1,⟨rfl,rfl,rfl,rfl,rfl,trivial⟩,⟨(x3.trans x35).mono (by simp),by omega,by rw [aW6 hil];exact m5⟩,by omega⟩
     ·have ei:i=t.ins.length:=by omega
      subst ei
      rw [tLe (Nat.le_refl _)] at hmp
      have hany:¬l.any (fun x=>decide (x.id=idT t))=true:=by
       rw [hP.inv.ent] at hno
       rw [List.any_eq_true]
       rintro ⟨y,h1,h2⟩
       exact (List.find?_eq_none.1 hno y h1) (by rw [hid];exact h2)
      have hnone:∀i∈t.ins,∀y∈l,spends y i.p=false:=fun i hi y hy=>by
       obtain ⟨j,hj,rfl⟩:=List.getElem_of_mem hi
       have h5:=hfree j hj
       rw [hP.inv.spt,Option.map_eq_none_iff] at h5
       have h6:=List.find?_eq_none.1 h5 y hy
       simpa using h6
      have hany2:¬t.ins.any (fun i=>l.any fun x=>spends x i.p)=true:=by
       rw [List.any_eq_true]
       rintro ⟨i,hi,h⟩
       obtain ⟨y,hy,h⟩:=List.any_eq_true.1 h
       rw [hnone i hi y hy] at h;cases h
      rw [aJb he0 (fun _ _ _=>trivial),if_neg hany,if_neg hany2,hxe]
      have hno':∀y∈l,y.id≠x.id:=fun y hy e=>hany (List.any_eq_true.2 ⟨y,hy,dTr (by rw [e,hid])⟩)
      have hinv:GI (fV m x.id x) (wG sp x.tx.ins x.id) (l++ [x]):=GI.add hP.inv hok hno' (fun y hy p hp=>by
       unfold spends at hp
       obtain ⟨i,hi,h⟩:=List.any_eq_true.1 hp
       rw [htx] at hi
       rw [←of_decide_eq_true h]
       exact hnone i hi y hy)
      rw [htx] at hinv
      have nb2:b2∉aC v13:=hv3 _ l2 n6
      have nb1:b1∉aC v13:=hv3 _ l1 n5
      have nbg:g∉aC v13:=hv3 _ lg n3
      have n13:(aC v13).Nodup:=aCw v13
      have hC:Chg (dS g b1 b2 vo) w w3:=(C14.trans x3).mono (fun b hb=>by simp at hb ⊢;grind)
      have e13:(l++ [x]).map (·.id)=l.map (·.id)++ [x.id]:=by simp
      have agx:=ag14.chg x3 (by simp;omega)
      have mx:=m14.step (M':=U++dS g b1 b2 v13) x3 (by simp;omega) (fun b hb=>.inl (by simp at hb;simp [hb])) (fun _ h=>.inl h)
      have mx0:=mx.step (M':=dS g b1 b2 v13) (Chg.refl [] _) (by simp) (by simp) (fun b hb=>.inl (List.mem_append_right _ hb))
      have ox:=o14.chg x3 (fun b hb h=>by simp at h;subst h;exact nb2 hb)
      rw [←e13] at ox
      refine aA rfl ⟨_,rfl,⟨b1,v13,b2,fV m x.id x,wG sp t.ins x.id,⟨agx,mx0,hmp,ox,hinv,?_,hP.lo⟩,rfl⟩,hC,fun b hb=>(hM' b hb).imp id (nTr sB11),⟨b1,v13,b2,fV m x.id x,wG sp t.ins x.id,⟨agx,mx,hmp,ox.sl,hinv⟩⟩⟩
      simp only [List.nodup_cons,List.mem_cons,not_or]
      exact ⟨⟨n1,n2,nbg⟩,⟨n4,nb1⟩,nb2,n13⟩
 ·refine vS rfl ?_
  unfold nP
  refine oy ?_
  repeat' (first|refine go1 ?_|refine zg λ_ _=>?_|refine zi λ_ _=>?_|refine zL rfl (fun h=>?_) (fun h=>absurd h (by simpa using he0))|refine zN rfl (fun h=>?_) (fun h=>absurd h he0)|refine zD rfl rfl (fun bp wp xp ap (rp:Row wp ⟨bp,0,none⟩ (aK t iv ov)) hp0=>?_)|(refine zC rfl (aO4 (M:=N) (cs:=aK t iv ov) (t:=t) fee _ (by exact fx) hs hf (fun b hb=>nLt (hN b hb) (Ext.size (by exact fx)))) ?_;rintro _ w5 ⟨ds,rfl,d1,d2, -,x5⟩)|refine zE (d':=7) (fun _=>rfl) d1 rfl d2 (fun b7 w7 x7 a7 r7 hb7=>?_))
  have xx:Ext w w7:=by exact fx
  rw [bLf he0]
  exact aA rfl ⟨_,rfl,hG0.ext xx,xx.mono (by simp),fun b hb=>.inl hb,hU.ext xx⟩
theorem bEc {B g:Nat} {M N U:List Nat} {l:List Ent} {cs:List Value} {t:Tx} (fee:Int) (w:World) (hG:GrU w B g M U l) (hUN:∀b∈U,b∈N) (ht:txR.rel N w cs t) (hs:t.Sm) (hf:rT fee) (hN:∀b∈N,b<w.heap.size) (hMN:∀b∈M,b∈N) (hn:l.length≤1000):K.Spec Tryz.prog F.graph_Graph_Add [.pointer (some ⟨g,0,none⟩),.agg cs.toArray,.int .i64 fee] w fun r w'=>
  ∃M',r=.int .i64 (fM l t fee).2∧GrU w' B g M' U (fM l t fee).1∧Chg M w w'∧∀b∈M',b∈M∨w.heap.size≤b:=
 dO (bPn fee w hG.gr hG.rd hUN ht hs hf hN hMN hn) fun _ _ ⟨M',h1,h2,h3,h4,h5⟩=>⟨M',h1,⟨h2,h5,fun b hb h=>(h4 b hb).elim (fun h6=>hG.dj b h6 h) (fun h6=>by have:=hN b (hUN b h);omega)⟩,h3,h4⟩
end
end Go.Proofs.YteceapipdhnhdaaGreatDoor
