/- Contracts: adding to a graph, beside blocks that are turned  -/
import Derived.Test.YtgloknkcfchnlaaGreatZ38
set_option linter.unusedVariables false
set_option linter.unusedSimpArgs false
namespace Go.Proofs.YtgloknkcfchnlaaGreat
section
open Go Go.K
attribute [local irreducible] aF aP bG KOp.wp K.Spec u32 leS vnS str aR dE bS idT aO aE aQ idN bB cH bY bT eO
set_option maxHeartbeats 2000000 in
theorem bQ0 {B g:Nat} {M N U:List Nat} {l:List Ent} {cs:List Value} {t:Tx} (fee:Int) (w:World) (hG:Gr w B g M l) (hU:GrR w g (U++M) l) (hUN:∀b∈U,b∈N) (ht:txR.rel N w cs t) (hs:t.Sm) (hf:sG fee) (hN:∀b∈N,b<w.heap.size) (hMN:∀b∈M,b∈N) (hn:l.length≤1000):K.Spec Tryz.prog F.graph_Graph_Add [.pointer (some ⟨g,0,none⟩),.agg cs.toArray,.int .i64 fee] w fun r w'=>
  ∃M',r=.int .i64 (eO l t fee).2∧Gr w' B g M' (eO l t fee).1∧Chg M w w'∧(∀b∈M',b∈M∨w.heap.size≤b)∧GrR w' g (U++M') (eO l t fee).1:=by
 have hG0:=hG
 obtain ⟨b1,vo,b2,m,sp,hP,rfl,hu1⟩:=Gr.both hG hU
 have rg:Row w ⟨g,0,none⟩ [.map (some b1),vo,.map (some b2)]:=Row.of_at hP.at_
 have hq1:=hP.ents
 have hq2:=hP.pts
 have ht0:=ht
 obtain ⟨iv,ov,rfl,h1,h2,h3⟩:=ht
 by_cases he0:lS t fee=0
 ·refine kP rfl ?_
  unfold iH
  refine oy ?_
  repeat' (first|refine go1 ?_|refine zg λ_ _=>?_|refine zi λ_ _=>?_|refine zL rfl (fun h=>absurd h (by decide)) (fun h=>?_)|refine zD rfl rfl (fun bp wp xp ap (rp:Row wp ⟨bp,0,none⟩ (aJ t iv ov)) hp0=>?_)|(refine zC rfl (aB9 (M:=N) (cs:=aJ t iv ov) (t:=t) fee _ (by exact fx) hs hf (fun b hb=>nLt (hN b hb) (Ext.size (by exact fx)))) ?_;rintro _ w5 ⟨ds,rfl,d1,d2,d3,x5⟩;obtain ⟨hok,he5⟩:=d3 he0;rw [he0];clear d3;generalize hxe:(⟨t,idT t,fee,(aO t:Nat)⟩:Ent)=x at hok he5 d1 d2 ⊢;have htx:x.tx=t:=(by rw [←hxe]);have hid:x.id=idT t:=(by rw [←hxe]);have he5':=he5;obtain ⟨iv5,ov5,rfl,o1,o2,o3⟩:=he5)|refine zE (d':=7) (fun _=>rfl) rfl rfl d2 (fun b7 w7 x7 a7 (r7:Row w7 ⟨b7,0,none⟩ (bC x iv5 ov5)) hb7=>?_)|refine wC (d:=some 35) (KE:=sK) (F:=dC) (M:=dT g b1 b2 vo) (k:=x.id) rfl rfl (by exact fx) rfl rfl (fun y cs hy hr=>?_) (fun hno=>?_)|(refine zH (d:=some 9) (fun b9 w9 x9 a9 hb9=>?_);have s9:w.heap.size≤b9:=nTr (Ext.size (w:=w) (by exact fx)) hb9;have s79:w7.heap.size≤b9:=nTr (Ext.size (w:=w7) (by exact fx)) hb9)|(obtain ⟨iv9,ov9,rfl,q1,q2,q3⟩:=hr;have i1:=q1.one;have i2:=q2.one;refine aU (w0:=w) (vs:=bC y iv9 ov9) (by exact fx) s9 (by focus (repeat (first|assumption|(apply At.ext;assumption)))) rfl rfl rfl rfl (by simp [bC,i1,i2];exact ⟨rfl,rfl,rfl,rfl,rfl⟩) (fun w10 x10 c10 a10 r10=>?_);clear q1 q2)|refine aU (w0:=w) (vs:=aDa) (by exact fx) s9 (by focus (repeat (first|assumption|(apply At.ext;assumption)))) rfl rfl rfl rfl rfl (fun w10 x10 c10 a10 r10=>?_)|refine zG (E:=inR) (M:=N) (l:=t.ins) rfl (SlR.ext h1 (by exact fx)) ?_)
  ·rw [hP.inv.ent] at hy
   have hany:l.any (fun x=>decide (x.id=idT t))=true:=by
    rw [List.any_eq_true]
    exact ⟨y,List.mem_of_find?_eq_some hy,by have:=List.find?_some hy;rw [←hid];exact this⟩
   rw [yD he0 (fun _ _ _=>trivial),if_pos hany]
   exact aA rfl ⟨_,rfl,hG0.ext x10,x10.mono (by simp),fun b hb=>.inl hb,hU.ext x10⟩
  ·have l7:=a7.lt
   have lp:=ap.lt
   have s5:=x5.size
   have s7:=x7.size
   have sp:=xp.size
   have ap0:=At.chg c10 (At.ext (show Ext wp w9 by exact fx) ap) (by simp;omega)
   have a70:=At.chg c10 (At.ext (show Ext w7 w9 by exact fx) a7) (by simp;omega)
   have x59:Ext w5 w9:=by exact fx
   have k1:=o1.lt
   have k2:=o2.lt
   have e10:dC.rel N w10 (bC x iv5 ov5) x:=by
    have n1:b9∉aB iv5:=fun h=>by have:=k1 _ h;omega
    have n2:b9∉aB ov5:=fun h=>by have:=k2 _ h;omega
    have p1:=(o1.step (M':=b9::N) x59 (by simp) (fun b hb=>by rcases List.mem_cons.1 hb with h|h;(right;omega);exact .inl h)).step (M':=N) c10 (by intro y hy;simp at hy;subst hy;exact ⟨n1,.inl (by simp)⟩) (fun _ h=>.inl (by simp [h]))
    have p2:=(o2.step (M':=b9::N) x59 (by simp) (fun b hb=>by rcases List.mem_cons.1 hb with h|h;(right;omega);exact .inl h)).step (M':=N) c10 (by intro y hy;simp at hy;subst hy;exact ⟨n2,.inl (by simp)⟩) (fun _ h=>.inl (by simp [h]))
    exact aOq.rel (B:=w.heap.size) ⟨iv5,ov5,rfl,p1.lower sp,p2.lower sp,o3⟩ hN
   have rp0:Row w10 ⟨bp,0,none⟩ (aJ t iv ov):=Row.of_at ap0
   have r70:Row w10 ⟨b7,0,none⟩ (bC x iv5 ov5):=Row.of_at a70
   have hb7:w.heap.size≤b7:=by omega
   have hbp:=hp0
   have hl1:=Gr.lt hG0
   have hins:=hs.ins
   clear ‹Ext w7 _›
   clear x59 k1 k2 o1 o2 he5' c10 a10 r10 x9 a9 hb9 s9 s79 x7 a7 r7 x5 xp ap rp l7 lp s5 s7 sp hp0
   repeat' (first|refine go1 ?_|refine zg λ_ _=>?_|refine zi λ_ _=>?_|refine zL rfl (fun h=>?_) (fun h=>?_)|refine zG (E:=inR) (M:=N) (l:=t.ins) rfl (SlR.ext h1 (by exact fx)) ?_|(refine aI (fun (i:Nat) w'=>Ext w10 w'∧i≤t.ins.length∧∀j (hj:j<t.ins.length),j<i→aL sp t.ins[j].p=none) (fun i=> [(0,.pointer (some ⟨g,0,none⟩)),(4,.pointer (some ⟨bp,0,none⟩)),(7,.pointer (some ⟨b7,0,none⟩)),(40,iv),(41,.int .i64 (t.ins.length:Nat)),(42,.int .i64 i)]) (fun i=>t.ins.length - i) 0 ⟨rfl,rfl,rfl,rfl,rfl,rfl,trivial⟩ ⟨by exact fx,by simp,fun j hj h=>by omega⟩ ?_;rintro i ρ w3 ⟨x3,hi,hfr⟩)|(refine aM (d:=some 44) (E:=inR) (M:=N) rfl rfl (n:=i) (l:=t.ins) (SlR.ext h1 (x10.trans x3)) rfl (by omega) (fun ad cs r4 he=>?_);obtain ⟨wv,rfl,hw,hp5,hp6⟩:=he;obtain ⟨bs1,cp1,rfl⟩:=hw.form;have hil:i<t.ins.length:=(by omega))|refine zE (d':=12) (fun _=>rfl) rfl rfl rfl (fun b8 w8 x8 a8 (r8:Row w8 ⟨b8,0,none⟩ (eJ t.ins[i] (.slice bs1 t.ins[i].wit.length cp1))) hb8=>?_)|refine lU (d:=some 53) (E:=ptK) (fv:=Value.string) (k:=t.ins[i].p) rfl rfl (dI.ext (w:=w) (by exact fx) hq2) rfl rfl (fun y hy=>?_) (fun hn2=>?_))
   ·rw [hP.inv.spt,Option.map_eq_some_iff] at hy
    obtain ⟨z,hz, -⟩:=hy
    have hany:¬l.any (fun x=>decide (x.id=idT t))=true:=by
     rw [hP.inv.ent] at hno
     rw [List.any_eq_true]
     rintro ⟨y,h1,h2⟩
     exact (List.find?_eq_none.1 hno y h1) (by rw [hid];exact h2)
    have hany2:t.ins.any (fun i=>l.any fun x=>spends x i.p)=true:=List.any_eq_true.2 ⟨_,gMe hil,List.any_eq_true.2 ⟨z,List.mem_of_find?_eq_some hz,(by have:=List.find?_some hz;exact this)⟩⟩
    rw [yD he0 (fun _ _ _=>trivial),if_neg hany,if_pos hany2]
    have xx:Ext w _:=Ext.trans (x10.trans (x3.trans x8)) (by assumption)
    exact aA rfl ⟨_,rfl,hG0.ext xx,xx.mono (by simp),fun b hb=>.inl hb,hU.ext xx⟩
   ·exact ⟨i+1,⟨rfl,rfl,rfl,rfl,rfl,rfl,trivial⟩,⟨by exact fx,by omega,fun j hj h=>by
     rcases Nat.lt_succ_iff_lt_or_eq.1 h with h5|rfl
     ·exact hfr j hj h5
     ·exact hn2⟩,by omega⟩
   ·rename_i wB xB
    have hfree:∀j (hj:j<t.ins.length),aL sp t.ins[j].p=none:=fun j hj=>hfr j hj (by omega)
    have x0B:=x3.trans xB
    have xwB:Ext w wB:=x10.trans x0B
    have eB:dC.rel (U++dT g b1 b2 vo) wB (bC x iv5 ov5) x:=dC.step e10 x0B (by simp) (fun b hb=>.inl ((List.mem_append.1 hb).elim (hUN b) (hMN b)))
    have apB:=ap0.ext x0B
    have a7B:=a70.ext x0B
    have agB:=hP.at_.ext xwB
    have mB:=hu1.ext xwB
    have pB:=hq2.ext xwB
    have oB:=hP.ord.ext xwB
    have sB:=xwB.size
    have nd:=hP.nd
    simp only [List.nodup_cons,List.mem_cons,not_or] at nd
    obtain ⟨⟨n1,n2,n3⟩,⟨n4,n5⟩,n6,n7⟩:=nd
    have l1:b1<w.heap.size:=hl1 _ (by simp)
    have l2:b2<w.heap.size:=hl1 _ (by simp)
    have lg:g<w.heap.size:=hl1 _ (by simp)
    have lo:∀b∈aB vo,b<w.heap.size:=fun b hb=>hl1 b (by simp [hb])
    clear x3 xB x0B hi x10 ap0 a70 rp0 r70 e10 rg hfr h
    refine aGc (KE:=sK) (F:=dC) (M:=U++dT g b1 b2 vo) (k:=x.id) (v:=x) (cs:=bC x iv5 ov5) rfl rfl rfl mB eB (by simp) rfl rfl (fun w11 c11 m11=>?_)
    have ag11:=agB.chg c11 (by simp;omega)
    have a711:=a7B.chg c11 (by simp;omega)
    have ap11:=apB.chg c11 (by simp;omega)
    have p11:=pB.chg c11 (by simp;omega)
    have o11:=oB.chg c11 (fun b hb h=>by simp at h;subst h;exact n5 hb)
    have rg11:Row w11 ⟨g,0,none⟩ [.map (some b1),vo,.map (some b2)]:=Row.of_at ag11
    have r711:Row w11 ⟨b7,0,none⟩ (bC x iv5 ov5):=Row.of_at a711
    have C11:Chg (dT g b1 b2 vo) w w11:=(xwB.chg c11).mono (fun b hb=>by simp at hb;subst hb;exact .inl (by simp))
    have s11:=c11.size
    have sB11:w.heap.size≤w11.heap.size:=nTr sB s11
    have hBw:B≤w.heap.size:=(by have:=hP.lo;omega)
    clear agB a7B apB pB oB mB eB c11 xwB
    repeat' (first|refine go1 ?_|refine zg λ_ _=>?_|refine zi λ_ _=>?_|refine fD ?_ ?_|refine zI (d:=some 72) (cs:= [.string x.id]) rfl (fun bz wz xz az hbz=>?_))
    all_goals
     refine kX (d:=some 73) (E:=bL) (B:=B) (l:=l.map (fun x:Ent=>x.id)) (l2:= [x.id]) (n:=1) (new:= [.string x.id]) rfl (o11.ext (by exact fx)) (nTr (nTr hBw sB11) (Ext.size (w:=w11) (by exact fx))) rfl rfl (dX (by focus (repeat (first|assumption|(apply At.ext;assumption)))) rfl) rfl rfl (by simp only [List.length_map,List.length_cons,List.length_nil];omega) (fun v13 w13 o13 _ c13 hb13=>?_)
     have c1:Chg (aB vo) w11 w13:=Ext.chg (by exact fx) c13
     have hb1:∀b∈aB v13,b∈aB vo∨w11.heap.size≤b:=fun b hb=>(hb13 b hb).imp id (nTr (Ext.size (by exact fx)))
     clear c13 hb13 az hbz xz
     clear ‹Ext w11 _›
     have s13:=c1.size
     have ag13:=ag11.chg c1 n3
     have ap13:=ap11.chg c1 (fun h=>by have:=lo _ h;omega)
     have a713:=a711.chg c1 (fun h=>by have:=lo _ h;omega)
     have p13:=p11.chg c1 n6
     have rg13:Row w13 ⟨g,0,none⟩ [.map (some b1),vo,.map (some b2)]:=Row.of_at ag13
     repeat (first|refine go1 ?_|refine zg λ_ _=>?_|refine zi λ_ _=>?_)
     have hv1:v13.oneCell'=true:=by obtain ⟨_,_,e⟩:=o13.sl.form;rw [e];rfl
     refine bO (b:=g) (o:=1) (v:=v13) rfl rfl hv1 ag13 (by simp) (fun w14 c14 ag14=>?_)
     have ag14:At w14 g (.cells [.map (some b1),v13,.map (some b2)].toArray T.graph_Graph (0,0)):=ag14
     have rg14:Row w14 ⟨g,0,none⟩ [.map (some b1),v13,.map (some b2)]:=Row.of_at ag14
     have a714:=a713.chg c14 (by simp;omega)
     have ap14:=ap13.chg c14 (by simp;omega)
     have r714:Row w14 ⟨b7,0,none⟩ (bC x iv5 ov5):=Row.of_at a714
     have rp14:Row w14 ⟨bp,0,none⟩ (aJ t iv ov):=Row.of_at ap14
     have hv3:∀b,b<w.heap.size→b∉aB vo→b∉aB v13:=fun b hb hn h=>by
      rcases hb1 b h with h1|h1
      ·exact hn h1
      ·omega
     have o14:=o13.chg c14 (fun b hb h=>by simp at h;subst h;exact hv3 _ lg n3 hb)
     have p14:=p13.chg c14 (by simp;omega)
     have hM':∀b∈dT g b1 b2 v13,b∈dT g b1 b2 vo∨w11.heap.size≤b:=fun b hb=>by
      simp only [List.mem_cons] at hb ⊢
      rcases hb with rfl|rfl|rfl|hb
      ·exact .inl (.inl rfl)
      ·exact .inl (.inr (.inl rfl))
      ·exact .inl (.inr (.inr (.inl rfl)))
      ·exact (hb1 b hb).imp (fun h=>.inr (.inr (.inr h))) id
     have hMU:∀b∈U++dT g b1 b2 v13,b∈U++dT g b1 b2 vo∨w11.heap.size≤b:=fun b hb=>(List.mem_append.1 hb).elim (fun h=>.inl (List.mem_append_left _ h)) (fun h=>(hM' b h).imp (fun h2=>List.mem_append_right _ h2) id)
     have m13:pO sK dC (U++dT g b1 b2 v13) w13 b1 (fQ m x.id x):=m11.step c1 n5 (fun b hb=>.inl (by simp [hb])) hMU
     have m14:=m13.step (M':=U++dT g b1 b2 v13) c14 (by simp;omega) (fun b hb=>by simp at hb;subst hb;exact .inl (by simp)) (fun _ h=>.inl h)
     have C14:Chg (dT g b1 b2 vo) w w14:=((C11.trans c1).trans c14).mono (fun b hb=>by simp at hb ⊢;grind)
     have s14:=c14.size
     have hi14:SlR inR N w14 iv t.ins:=h1.step C14 (fun b hb=>.inl (hMN b hb)) (fun _ h=>.inl h)
     clear ag13 rg13 a713 ap13 o13 p13 m13 c14 c1 m11 ag11 a711 ap11 p11 o11 rg11 r711 C11
     clear ap14
     repeat' (first|refine go1 ?_|refine zg λ_ _=>?_|refine zi λ_ _=>?_|refine zL rfl (fun h=>?_) (fun h=>?_)|refine zG (E:=inR) (M:=N) (l:=t.ins) rfl (SlR.ext hi14 (by exact fx)) ?_|(refine aI (fun (i:Nat) w'=>Chg [b2] w14 w'∧i≤t.ins.length∧dI ptK Value.string w' b2 (nM sp (t.ins.take i) x.id)) (fun i=> [(0,.pointer (some ⟨g,0,none⟩)),(7,.pointer (some ⟨b7,0,none⟩)),(77,iv),(78,.int .i64 (t.ins.length:Nat)),(79,.int .i64 i)]) (fun i=>t.ins.length - i) 0 ⟨rfl,rfl,rfl,rfl,rfl,trivial⟩ ⟨(show Ext w14 _ by exact fx).mono (by simp),by simp,dI.ext (by exact fx) p14⟩ ?_;rintro i ρ w3 ⟨x3,hi,hmp⟩))
     ·have hi3:SlR inR N w3 iv t.ins:=hi14.step x3 (fun b hb=>.inl (hMN b (by simp at hb;simp [hb]))) (fun _ h=>.inl h)
      have rg3:Row w3 ⟨g,0,none⟩ [.map (some b1),v13,.map (some b2)]:=Row.of_at (ag14.chg x3 (by simp;omega))
      have r73:Row w3 ⟨b7,0,none⟩ (bC x iv5 ov5):=Row.of_at (a714.chg x3 (by simp;omega))
      clear r714 rp14 rg14
      repeat' (first|refine go1 ?_|refine zg λ_ _=>?_|refine zi λ_ _=>?_|(refine aM (d:=some 81) (E:=inR) (M:=N) rfl rfl (n:=i) (l:=t.ins) (SlR.ext hi3 (by exact fx)) rfl (by omega) (fun ad cs r4 he=>?_);obtain ⟨wv,rfl,hw,hp5,hp6⟩:=he;obtain ⟨bs1,cp1,rfl⟩:=hw.form;have hil:i<t.ins.length:=(by omega))|refine zE (d':=16) (fun _=>rfl) rfl rfl rfl (fun b8 w8 x8 a8 (r8:Row w8 ⟨b8,0,none⟩ (eJ t.ins[i] (.slice bs1 t.ins[i].wit.length cp1))) hb8=>?_)|(refine eQ (E:=ptK) (fv:=Value.string) (k:=t.ins[i].p) (v:=x.id) rfl rfl rfl (dI.ext (w:=w3) (by exact fx) hmp) rfl rfl (fun w5 c5 m5=>?_);have x35:Chg [b2] w3 w5:=Ext.chg (by exact fx) c5))
      exact ⟨i+1,⟨rfl,rfl,rfl,rfl,rfl,trivial⟩,⟨(x3.trans x35).mono (by simp),by omega,by rw [aMu hil];exact m5⟩,by omega⟩
     ·have ei:i=t.ins.length:=by omega
      subst ei
      rw [tLe (Nat.le_refl _)] at hmp
      have hany:¬l.any (fun x=>decide (x.id=idT t))=true:=by
       rw [hP.inv.ent] at hno
       rw [List.any_eq_true]
       rintro ⟨y,h1,h2⟩
       exact (List.find?_eq_none.1 hno y h1) (by rw [hid];exact h2)
      have hnone:∀i∈t.ins,∀y∈l,spends y i.p=false:=fun i hi y hy=>by
       obtain ⟨j,hj,rfl⟩:=List.getElem_of_mem hi
       have h5:=hfree j hj
       rw [hP.inv.spt,Option.map_eq_none_iff] at h5
       have h6:=List.find?_eq_none.1 h5 y hy
       simpa using h6
      have hany2:¬t.ins.any (fun i=>l.any fun x=>spends x i.p)=true:=by
       rw [List.any_eq_true]
       rintro ⟨i,hi,h⟩
       obtain ⟨y,hy,h⟩:=List.any_eq_true.1 h
       rw [hnone i hi y hy] at h;cases h
      rw [yD he0 (fun _ _ _=>trivial),if_neg hany,if_neg hany2,hxe]
      have hno':∀y∈l,y.id≠x.id:=fun y hy e=>hany (List.any_eq_true.2 ⟨y,hy,dTr (by rw [e,hid])⟩)
      have hinv:GI (fQ m x.id x) (nM sp x.tx.ins x.id) (l++ [x]):=GI.add hP.inv hok hno' (fun y hy p hp=>by
       unfold spends at hp
       obtain ⟨i,hi,h⟩:=List.any_eq_true.1 hp
       rw [htx] at hi
       rw [←of_decide_eq_true h]
       exact hnone i hi y hy)
      rw [htx] at hinv
      have nb2:b2∉aB v13:=hv3 _ l2 n6
      have nb1:b1∉aB v13:=hv3 _ l1 n5
      have nbg:g∉aB v13:=hv3 _ lg n3
      have n13:(aB v13).Nodup:=xJ v13
      have hC:Chg (dT g b1 b2 vo) w w3:=(C14.trans x3).mono (fun b hb=>by simp at hb ⊢;grind)
      have e13:(l++ [x]).map (·.id)=l.map (·.id)++ [x.id]:=by simp
      have agx:=ag14.chg x3 (by simp;omega)
      have mx:=m14.step (M':=U++dT g b1 b2 v13) x3 (by simp;omega) (fun b hb=>.inl (by simp at hb;simp [hb])) (fun _ h=>.inl h)
      have mx0:=mx.step (M':=dT g b1 b2 v13) (Chg.refl [] _) (by simp) (by simp) (fun b hb=>.inl (List.mem_append_right _ hb))
      have ox:=o14.chg x3 (fun b hb h=>by simp at h;subst h;exact nb2 hb)
      rw [←e13] at ox
      refine aA rfl ⟨_,rfl,⟨b1,v13,b2,fQ m x.id x,nM sp t.ins x.id,⟨agx,mx0,hmp,ox,hinv,?_,hP.lo⟩,rfl⟩,hC,fun b hb=>(hM' b hb).imp id (nTr sB11),⟨b1,v13,b2,fQ m x.id x,nM sp t.ins x.id,⟨agx,mx,hmp,ox.sl,hinv⟩⟩⟩
      simp only [List.nodup_cons,List.mem_cons,not_or]
      exact ⟨⟨n1,n2,nbg⟩,⟨n4,nb1⟩,nb2,n13⟩
 ·refine kP rfl ?_
  unfold iH
  refine oy ?_
  repeat' (first|refine go1 ?_|refine zg λ_ _=>?_|refine zi λ_ _=>?_|refine zL rfl (fun h=>?_) (fun h=>absurd h (by simpa using he0))|refine zN rfl (fun h=>?_) (fun h=>absurd h he0)|refine zD rfl rfl (fun bp wp xp ap (rp:Row wp ⟨bp,0,none⟩ (aJ t iv ov)) hp0=>?_)|(refine zC rfl (aB9 (M:=N) (cs:=aJ t iv ov) (t:=t) fee _ (by exact fx) hs hf (fun b hb=>nLt (hN b hb) (Ext.size (by exact fx)))) ?_;rintro _ w5 ⟨ds,rfl,d1,d2, -,x5⟩)|refine zE (d':=7) (fun _=>rfl) d1 rfl d2 (fun b7 w7 x7 a7 r7 hb7=>?_))
  have xx:Ext w w7:=by exact fx
  rw [bBl he0]
  exact aA rfl ⟨_,rfl,hG0.ext xx,xx.mono (by simp),fun b hb=>.inl hb,hU.ext xx⟩
theorem aVu {B g:Nat} {M N U:List Nat} {l:List Ent} {cs:List Value} {t:Tx} (fee:Int) (w:World) (hG:GrU w B g M U l) (hUN:∀b∈U,b∈N) (ht:txR.rel N w cs t) (hs:t.Sm) (hf:sG fee) (hN:∀b∈N,b<w.heap.size) (hMN:∀b∈M,b∈N) (hn:l.length≤1000):K.Spec Tryz.prog F.graph_Graph_Add [.pointer (some ⟨g,0,none⟩),.agg cs.toArray,.int .i64 fee] w fun r w'=>
  ∃M',r=.int .i64 (eO l t fee).2∧GrU w' B g M' U (eO l t fee).1∧Chg M w w'∧∀b∈M',b∈M∨w.heap.size≤b:=
 eZ (bQ0 fee w hG.gr hG.rd hUN ht hs hf hN hMN hn) fun _ _ ⟨M',h1,h2,h3,h4,h5⟩=>⟨M',h1,⟨h2,h5,fun b hb h=>(h4 b hb).elim (fun h6=>hG.dj b h6 h) (fun h6=>by have:=hN b (hUN b h);omega)⟩,h3,h4⟩
end
section
open Go Go.K
attribute [local irreducible] aF aP bG KOp.wp K.Spec u32 leS vnS str aR dE bS idT aO aE aQ idN bB cH bY bT cE eO bF cI aK
set_option maxHeartbeats 4000000 in
theorem aYg {g:Nat} {M N:List Nat} {l:List Ent} {v:Value} (w:World) (hG:GrR w g M l) (hM:∀b∈M,b<w.heap.size) (hv:SlR dC N w v l) (hl:l.length≤1000):K.Spec Tryz.prog F.kedgelaw17_same [.pointer (some ⟨g,0,none⟩),v] w fun r w'=>r=.bool true∧Ext w w':=by
 have hE:=hG.ok
 refine aIm rfl ?_
 unfold wY
 refine oy ?_
 repeat' (first|(refine zC (d:=some 9) rfl (eK (M:=M) (l:=l) _ (hG.ext (by exact fx)) (fun b hb=>nLt (hM b hb) (Ext.size (by exact fx))) (by omega)) ?_;rintro u1 w1 ⟨o1,x1⟩;have o1:=(o1.sub (M':= []) (by simp)).sl (by simp))|refine zG (d:=some 11) (E:=dC) (M:= []) (l:=l) rfl (o1.ext (by exact fx)) ?_|refine zG (d:=some 13) (E:=dC) (M:=N) (l:=l) rfl (hv.ext (by exact fx)) ?_|refine zG (d:=some 16) (E:=dC) (M:= []) (l:=l) rfl (o1.ext (by exact fx)) ?_|refine aD (d:=some 14) (.bool false) rfl (congrArg (fun b=>some (Value.bool (!b))) (dTr rfl)) ?_|(refine aI (a:=.seq _ (.seq (.cond _ _ _) (.seq (.block 1 _) _))) (fun (i:Nat) w'=>Ext w1 w'∧i≤l.length) (fun i=> [(1,v),(15,u1),(16,.int .i64 (l.length:Nat)),(17,.int .i64 i)]) (fun i=>l.length - i) 0 ⟨rfl,rfl,rfl,rfl,trivial⟩ ⟨Ext.refl _,by simp⟩ ?_;rintro i ρ w2 ⟨x2,hi⟩)|refine zL (x:=.tmp 18) (p:=((i:Nat):Int)<((l.length:Nat):Int)) rfl (fun h6=>?_) (fun h6=>?_)|refine go1 ?_|refine zg λ_ _=>?_|refine zi λ_ _=>?_)
 ·have hil:i<l.length:=by omega
  have hsm:=lE (hE _ (gMe hil)).check
  have o2:=o1.ext x2
  have v2:=hv.ext (x1.trans x2)
  clear o1
  repeat' (first|(refine aM (d:=some 20) (E:=dC) (M:= []) rfl rfl (n:=i) (l:=l) o2 rfl hil (fun ad cs r3 he=>?_);obtain ⟨iv,ov,rfl,h1,h2,h3⟩:=he;have e1:iv.oneCell'=true:=(by obtain ⟨_,_,rfl⟩:=h1.form;rfl);have e2:ov.oneCell'=true:=(by obtain ⟨_,_,rfl⟩:=h2.form;rfl))|refine zH (d:=some 7) (fun b7 w7 x7 a7 hb7=>?_)|(refine aU (w0:=w2) (n:=7) (vs:=bC l[i] iv ov) x7 hb7 a7 rfl rfl rfl rfl (by show List.all (bC _ _ _) _=true;simp [bC,e1,e2];exact ⟨rfl,rfl,rfl,rfl,rfl⟩) (fun w8 x8 c8 a8 r8=>?_);clear x7 c8)|(refine aM (d:=some 26) (E:=dC) (M:=N) rfl rfl (n:=i) (l:=l) (SlR.ext v2 (by exact fx)) rfl hil (fun ad4 cs4 r4 he=>?_);obtain ⟨iv4,ov4,rfl,h14,h24,h34⟩:=he)|refine aD (d:=some 29) (.bool false) rfl (congrArg (fun b=>some (Value.bool (!b))) (dTr rfl)) ?_|(refine aM (d:=some 35) (E:=dC) (M:=N) rfl rfl (n:=i) (l:=l) (SlR.ext v2 (by exact fx)) rfl hil (fun ad5 cs5 r5 he=>?_);obtain ⟨iv5,ov5,rfl,h15,h25,h35⟩:=he)|refine aD (d:=some 38) (.bool false) rfl (congrArg (fun b=>some (Value.bool (!b))) (dTr rfl)) ?_|(refine aM (d:=some 45) (E:=dC) (M:=N) rfl rfl (n:=i) (l:=l) (SlR.ext v2 (by exact fx)) rfl hil (fun ad6 cs6 r6 he=>?_);obtain ⟨iv6,ov6,rfl,h16,h26,h36⟩:=he)|refine aD (d:=some 48) (.bool false) rfl (congrArg (fun b=>some (Value.bool (!b))) (dTr rfl)) ?_|(refine aM (d:=some 55) (E:=dC) (M:=N) rfl rfl (n:=i) (l:=l) (SlR.ext v2 (by exact fx)) rfl hil (fun ad8 cs8 r8 he=>?_);obtain ⟨iv8,ov8,rfl,h18,h28,h38⟩:=he)|(refine zC (d:=some 58) rfl (aU9 (M:= []) (N:=N) (cs:=aJ l[i].tx iv ov) (ds:=aJ l[i].tx iv8 ov8) (t:=l[i].tx) _ ⟨iv,ov,rfl,h1.ext (by exact fx),h2.ext (by exact fx),h3.1,h3.2.1⟩ ⟨iv8,ov8,rfl,h18.ext (by exact fx),h28.ext (by exact fx),h38.1,h38.2.1⟩ hsm) ?_;rintro _ w9 ⟨rfl,x9⟩)|refine go1 ?_|refine zg λ_ _=>?_|refine zi λ_ _=>?_)
  exact ⟨i+1,⟨rfl,rfl,rfl,rfl,trivial⟩,⟨by exact fx,by omega⟩,by omega⟩
 ·repeat (first|refine go1 ?_|refine zg λ_ _=>?_|refine zi λ_ _=>?_)
  exact aA rfl ⟨rfl,x1.trans x2⟩
end
section
open Go Go.K
attribute [local irreducible] aF aP bG KOp.wp K.Spec u32 leS vnS str aR dE bS idT aO aE aQ idN bB cH bY bT cE eO bF cI aK kI fP qT mQ bV evL inS inB jH fY jR gY gT nU gC dN gD dZ jN cF bU aV bK dU cG cN dB
set_option maxHeartbeats 4000000 in
theorem rI {B g:Nat} {M N U:List Nat} {l:List Ent} {cs:List Value} {t:Tx} {v:Value} {f:Pt→Option Cn} (h rate:Int) (w:World) (hG0:GrU w B g M U l) (hU:∀b∈U,b<w.heap.size) (hUN:∀b∈U,b∈N) (hV:eH w v f) (ht:txR.rel N w cs t) (hs:t.Sm) (hN:∀b∈N,b<w.heap.size) (hMN:∀b∈M,b∈N) (hl:l.length≤1000) (hf:∀x∈l,x.fee≤1000000000000):
  K.Spec Tryz.prog F.pool_Accept [.pointer (some ⟨g,0,none⟩),.agg cs.toArray,aCt v h rate] w fun r w'=>∃u e M',r=.tuple #[u,e]∧Own bL T.string w.heap.size w' u (cG f l t h rate)∧dL w' 1 e (dU f l t h rate).1 (dU f l t h rate).2∧GrU w' B g M' U (cN f l t h rate)∧Chg M w w'∧(∀b∈M',b∈M∨w.heap.size≤b)∧(∀b∈aB u,b∉M'):=by
 have hG:=hG0.gr
 have ht0:=ht
 have hM:∀b∈M,b<w.heap.size:=fun b hb=>hN b (hMN b hb)
 obtain ⟨iv,ov,rfl,hi,ho,hv⟩:=ht
 obtain ⟨vt,vu,rfl⟩:∃vt vu,v=.iface vt vu:=by obtain ⟨⟨a,b,e,_⟩,_⟩:=hV;exact ⟨a,b,e⟩
 have fail:∀{w':World} {e:Value} {c a:Int},Ext w w'→dU f l t h rate=(c,a)→cG f l t h rate= []→cN f l t h rate=l→dL w' 1 e c a→∃u e' M',Value.tuple #[.slice none 0 0,e]=.tuple #[u,e']∧Own bL T.string w.heap.size w' u (cG f l t h rate)∧dL w' 1 e' (dU f l t h rate).1 (dU f l t h rate).2∧GrU w' B g M' U (cN f l t h rate)∧Chg M w w'∧(∀b∈M',b∈M∨w.heap.size≤b)∧(∀b∈aB u,b∉M'):=fun x e1 e2 e3 he=>
  ⟨_,_,M,rfl,by rw [e2];exact Own.nil _ _ _,by rw [e1];exact he,by rw [e3];exact hG0.ext x,x.mono (by simp),fun b hb=>.inl hb,fun b hb=>by simp [aB] at hb⟩
 by_cases h0:(aV f l t h).2.1=0
 ·obtain ⟨hc,hg,hh,hgood⟩:=fL h0
  have hgf:=(bN _).1 hgood
  have hz:=(cB hs hc).sizeM
  have e0:kQ t=.tuple #[.int .i64 (aO t:Nat),.int .i64 0]:=by rw [kQ,if_pos hc]
  generalize hfee:(aV f l t h).1=fee at*
  refine nA rfl ?_
  unfold kG
  refine oy ?_
  repeat (first|refine zD (d:=some 4) rfl rfl (fun bt wt xt bt' (rt:Row wt ⟨bt,0,none⟩ (aJ t iv ov)) hbt0=>?_)|refine zD (d:=some 5) (cs:= [.iface vt vu,.int .i64 h,.int .i64 rate]) rfl rfl (fun bs ws xs bs' (rs:Row ws ⟨bs,0,none⟩ [.iface vt vu,.int .i64 h,.int .i64 rate]) hbs0=>?_)|(refine zC (d:=some 21) rfl (uZ (M:=M) (N:=N) (l:=l) (f:=f) (cs:=aJ t iv ov) (t:=t) h rate _ (hG.r.ext (by exact fx)) (fun b hb=>nLt (hM b hb) (Ext.size (by exact fx))) (hV.ext (by exact fx)) (R.ext ht0 (by exact fx)) hs) ?_;rintro _ w3 ⟨e,rfl,he,x3⟩;obtain ⟨hn1,hn2⟩:=he.nil_iff)|refine go1 ?_|refine zg λ_ _=>?_|refine zi λ_ _=>?_)
  obtain ⟨rfl, -⟩:=hn1 h0
  rw [hfee]
  clear he hn1 hn2
  repeat (first|(refine zC rfl (fZ _ (R.ext ht0 fx) hs) ?_;rintro _ w4 ⟨rfl,x4⟩;rw [e0])|(refine zC rfl (aPt (.iface vt vu) rfl h rate (aO t) (by omega) _) ?_;rintro _ w5 ⟨rfl,x5⟩)|refine go1 ?_|refine zg λ_ _=>?_|refine zi λ_ _=>?_)
  refine zL rfl (fun h1=>?_) (fun h1=>?_)
  ·have e:=aWd h0 (by rw [hfee];exact h1)
   obtain ⟨e2,e3⟩:=aFy (by decide) e
   repeat (first|refine go1 ?_|refine zg λ_ _=>?_|refine zi λ_ _=>?_)
   exact aA rfl (fail fx e e2 e3 (dL.num _ _ (by decide)))
  repeat (first|(refine zC rfl (aP6 fee _ (hG.r.ext fx) (fun b hb=>nLt (hM b hb) (Ext.size fx)) (R.ext ht0 fx) hs hl hf) ?_;rintro _ w6 ⟨rfl,x6⟩)|refine go1 ?_|refine zg λ_ _=>?_|refine zi λ_ _=>?_)
  refine zN rfl (fun h2=>?_) (fun h2=>?_)
  ·have e:=aLc h0 (by rw [hfee];exact h1) (by rw [hfee];exact h2)
   obtain ⟨e2,e3⟩:=aFy (by rw [hfee];exact h2) e
   rw [hfee] at e
   repeat (first|refine go1 ?_|refine zg λ_ _=>?_|refine zi λ_ _=>?_)
   exact aA rfl (fail fx e e2 e3 (dL.num _ _ h2))
  repeat (first|refine go1 ?_|refine zg λ_ _=>?_|refine zi λ_ _=>?_)
  refine zC rfl (jU _ (hG.r.ext fx) (fun b hb=>nLt (hM b hb) (Ext.size fx)) (R.ext ht0 fx) hs.ins hl) ?_
  rintro u w8 ⟨ou8,x7⟩
  have rt8:Row w8 ⟨bt,0,none⟩ (aJ t iv ov):=rt.ext fx
  have t8:=R.ext ht0 (show Ext w w8 by exact fx)
  have G8u:GrU w8 B g M U l:=hG0.ext (show Ext w w8 by exact fx)
  have G8:Gr w8 B g M l:=G8u.gr
  have hbu:∀b∈aB u,w.heap.size≤b:=fun b hb=>nTr (Ext.size (show Ext w w6 by exact fx)) (ou8.base b hb)
  have hbl:∀b∈aB u,b<w8.heap.size:=fun b hb=>Own.blk_lt ou8 b hb
  have s06:w.heap.size≤w6.heap.size:=Ext.size (show Ext w w6 by exact fx)
  have x08:Unit→Ext w w8:=fun _=>by exact fx
  have s08:=(x08 ()).size
  clear x3 x4 x5 x6 x7 xs xt rt rs bt' bs'
  have su:=ou8.sl
  have hM8:∀b∈M,b<w8.heap.size:=fun b hb=>nLt (hM b hb) s08
  have hid:(aK l (evL l t)).length≤1000:=nTr (jV l (evL l t)) hl
  obtain ⟨ids,hids⟩:∃ids,aK l (evL l t)=ids:=⟨_,rfl⟩
  rw [hids] at ou8 su hid
  repeat' (first|refine zg (fun w9 x9=>?_)|refine fD ?_ ?_|(refine zC rfl (aKy _ (G8.ext fx).r (fun b hb=>nLt (hM8 b hb) (Ext.size fx)) hl (su.ext fx) hid) ?_;rintro _ w10 ⟨g1,M1,rfl,g10,x10⟩)|refine dJ (fun (p:Nat × List Nat) w'=>Ext w8 w'∧Gr w' w8.heap.size p.1 p.2 (bK l ids)) (fun p=> [(0,.pointer (some ⟨g,0,none⟩)),(4,.pointer (some ⟨bt,0,none⟩)),(8,.int .i64 fee),(13,u),(51,.pointer (some ⟨p.1,0,none⟩)),(52,.agg (aJ t iv ov).toArray)]) ?_ ?_|(rintro ⟨g1,M1⟩ ρ7 w10 ⟨x10,g10⟩;try dsimp only)|(exact ⟨(g1,M1),⟨rfl,rfl,rfl,rfl,rfl,rfl,trivial⟩,by exact fx,Gr.low g10 (Ext.size x9)⟩)|refine go1 ?_|refine zg λ_ _=>?_|refine zi λ_ _=>?_)
  have hrest:pU l t=bK l ids:=by unfold pU;rw [hids]
  dsimp only at g10
  refine zC rfl (aK4 _ g10.r (Gr.lt g10) (R.ext t8 x10) hs (nTr (oJ ids l) hl)) ?_
  rintro _ w11 ⟨rfl,x11⟩
  repeat (first|refine go1 ?_|refine zg λ_ _=>?_|refine zi λ_ _=>?_)
  have rt11:Row w11 ⟨bt,0,none⟩ (aJ t iv ov):=rt8.ext fx
  have x811:Ext w8 w11:=x10.trans x11
  have t11:=R.ext t8 x811
  have G11:=G8u.ext x811
  have ou11:=ou8.ext x811
  have s811:=x811.size
  have x011:Unit→Ext w w11:=fun _=>(x08 ()).trans x811
  clear x10 x11 x811 g10 rt8 ou8 su
  refine zN rfl (fun h3=>?_) (fun h3=>?_)
  ·have e:=aRk h0 (by rw [hfee];exact h1) (by rw [hfee];exact h2) (by rw [hrest];exact h3)
   rw [hrest] at e
   obtain ⟨e2,e3⟩:=aFy h3 e
   repeat (first|refine go1 ?_|refine zg λ_ _=>?_|refine zi λ_ _=>?_)
   exact aA rfl (fail (x011 ()) e e2 e3 (dL.num _ _ h3))
  obtain ⟨e1,e2,e3⟩:=aP2 h0 (by rw [hfee];exact h1) (by rw [hfee];exact h2) (by rw [hrest];exact h3)
  rw [hids] at e2
  rw [hrest,hfee] at e3
  have d0:bK l (ids.take 0)=l:=by unfold bK;rfl
  have huM:∀a m c,u=.slice (some a) m c→a.block∉M:=fun a m c e hb=>by
   have h5:=hbu a.block (by rw [e];simp [aB])
   have h6:=hM _ hb
   omega
  repeat (first|refine aY rfl ou11.sl ?_|(refine aI (fun (p:Nat × List Nat) w'=>Chg M w11 w'∧p.1≤ids.length∧GrU w' B g p.2 U (bK l (ids.take p.1))∧(∀b∈p.2,b∈M∨w11.heap.size≤b)) (fun p=> [(0,.pointer (some ⟨g,0,none⟩)),(4,.pointer (some ⟨bt,0,none⟩)),(8,.int .i64 fee),(13,u),(58,u),(59,.int .i64 (ids.length:Nat)),(60,.int .i64 (p.1:Nat))]) (fun p=>ids.length - p.1) (0,M) ⟨rfl,rfl,rfl,rfl,rfl,rfl,rfl,trivial⟩ ⟨Chg.refl _ _,by simp,by rw [d0];exact G11,fun b hb=>.inl hb⟩ ?_;rintro ⟨i,Mi⟩ ρ w12 ⟨c12,hil,g12,m12⟩;simp only at hil g12 m12;dsimp only)|refine go1 ?_|refine zg λ_ _=>?_|refine zi λ_ _=>?_)
  have hlen:(bK l (ids.take i)).length≤1000:=nTr (oJ _ l) hl
  have s12:=c12.size
  refine zL rfl (fun h=>?_) (fun h=>?_)
  ·have hii:i<ids.length:=by omega
   have su12:=SlE.chg c12 ou11.sl huM
   repeat' (first|(refine aS rfl rfl su12 rfl hii (fun ad r5=>?_);have r5:Row w12 ad [Value.string ids[i]]:=r5)|(refine zC rfl (bMx ids[i] _ g12 (fun b hb=>by have:=hU b hb;have:=(x011 ()).size;omega) hlen) ?_;rintro _ w13 ⟨M4,rfl,g13,c13,m13⟩)|refine go1 ?_|refine zg λ_ _=>?_|refine zi λ_ _=>?_)
   refine ⟨(i+1,M4),⟨rfl,rfl,rfl,rfl,rfl,rfl,rfl,trivial⟩,⟨(c12.trans c13).mono (fun b hb=>?_),hii,by show GrU w13 B g M4 U (bK l (ids.take (i+1)));rw [uE hii];exact g13,fun b hb=>?_⟩,by show ids.length - (i+1)<ids.length - i;omega⟩
   ·rcases List.mem_append.1 hb with h5|h5
    ·exact .inl h5
    ·exact m12 b h5
   ·rcases m13 b hb with h5|h5
    ·exact m12 b h5
    ·exact .inr (nTr s12 h5)
  ·have hei:ids.take i=ids:=tLe (by omega)
   rw [hei] at g12 hlen
   have rt12:Row w12 ⟨bt,0,none⟩ (aJ t iv ov):=rt11.chg c12 (fun hb=>by have:bt<w.heap.size:=hM bt hb;omega)
   have t12:txR.rel (N++Mi) w12 (aJ t iv ov) t:=R.step txR t11 c12 (fun b hb=>.inl (hMN b hb)) (fun b hb=>by
    rcases List.mem_append.1 hb with h5|h5
    ·exact .inl h5
    ·exact (m12 b h5).imp (hMN b) id)
   have hN12:∀b∈N++Mi,b<w12.heap.size:=fun b hb=>by
    rcases List.mem_append.1 hb with h5|h5
    ·have:=hN b h5;omega
    ·exact Gr.lt g12.gr b h5
   repeat' (first|(refine zC rfl (aVu fee _ g12 (fun b hb=>List.mem_append_left _ (hUN b hb)) t12 hs (by unfold sG;omega) hN12 (fun b hb=>List.mem_append_right _ hb) hlen) ?_;rintro _ w14 ⟨M7,rfl,g14,c14,m14⟩)|refine go1 ?_|refine zg λ_ _=>?_|refine zi λ_ _=>?_)
   have hdis:∀b∈aB u,b∉Mi:=fun b hb hm=>by
    rcases m12 b hm with h5|h5
    ·have:=hM b h5;have:=hbu b hb;omega
    ·have:=hbl b hb;omega
   have hdis0:∀b∈aB u,b∉M:=fun b hb hm=>by have:=hM b hm;have:=hbu b hb;omega
   refine aA rfl ⟨u,.nilIface,M7,rfl,?_,by rw [e1];exact dL.none_ _ _,by rw [e3];exact g14,?_,fun b hb=>?_,fun b hb hm=>?_⟩
   ·rw [e2]
    exact ((ou11.chg c12 hdis0).chg c14 hdis).lower (by omega)
   ·refine (Ext.chg (x011 ()) (c12.trans c14)).mono (fun b hb=>?_)
    rcases List.mem_append.1 hb with h5|h5
    ·exact .inl h5
    ·rcases m12 b h5 with h6|h6
     ·exact .inl h6
     ·exact .inr (by omega)
   ·rcases m14 b hb with h5|h5
    ·rcases m12 b h5 with h6|h6
     ·exact .inl h6
     ·exact .inr (by omega)
    ·exact .inr (by omega)
   ·rcases m14 b hm with h5|h5
    ·exact hdis b hb h5
    ·have:=hbl b hb;omega
 ·obtain ⟨e1,e2,e3⟩:=aFz h0
  refine nA rfl ?_
  unfold kG
  refine oy ?_
  repeat (first|refine zD (d:=some 4) rfl rfl (fun bt wt xt bt' (rt:Row wt ⟨bt,0,none⟩ (aJ t iv ov)) hbt0=>?_)|refine zD (d:=some 5) (cs:= [.iface vt vu,.int .i64 h,.int .i64 rate]) rfl rfl (fun bs ws xs bs' (rs:Row ws ⟨bs,0,none⟩ [.iface vt vu,.int .i64 h,.int .i64 rate]) hbs0=>?_)|(refine zC (d:=some 21) rfl (uZ (M:=M) (N:=N) (l:=l) (f:=f) (cs:=aJ t iv ov) (t:=t) h rate _ (hG.r.ext (by exact fx)) (fun b hb=>nLt (hM b hb) (Ext.size (by exact fx))) (hV.ext (by exact fx)) (R.ext ht0 (by exact fx)) hs) ?_;rintro _ w3 ⟨e,rfl,he,x3⟩;obtain ⟨hn1,hn2⟩:=he.nil_iff)|refine go1 ?_|refine zg λ_ _=>?_|refine zi λ_ _=>?_)
  obtain ⟨et,eu,rfl⟩:=hn2 h0
  repeat (first|refine go1 ?_|refine zg λ_ _=>?_|refine zi λ_ _=>?_)
  exact aA rfl (fail fx e1 e2 e3 (he.ext fx))
end
section
open Go Go.K
attribute [local irreducible] aF aP bG KOp.wp K.Spec u32 leS vnS str aR dE bS idT aO aE aQ idN bB cH bY bT cE eO bF cI aK kI fP jR bK4 bFb gZ bK
end
section
open Go Go.K
attribute [local irreducible] aF aP bG KOp.wp K.Spec u32 leS vnS str aR dE bS idT aO aE aQ idN bB cH bY bT cE eO
end
section
open Go Go.K
attribute [local irreducible] aF aP bG KOp.wp K.Spec u32 leS vnS str aR dE bS idT aO aE aQ idN bB cH bY
set_option maxHeartbeats 1000000 in
theorem bFt {g:Nat} {M:List Nat} {l:List Ent} (w:World) (hG:GrR w g M l) (hM:∀b∈M,b<w.heap.size) (hn:l.length≤1000):K.Spec Tryz.prog F.graph_Graph_Copy [.pointer (some ⟨g,0,none⟩)] w fun r w'=>
  ∃g' M',r=.pointer (some ⟨g',0,none⟩)∧GrU w' w.heap.size g' M' M l∧Ext w w':=by
 obtain ⟨b1,vo,b2,m,sp,hP⟩:=hG
 have rg:Row w ⟨g,0,none⟩ [.map (some b1),vo,.map (some b2)]:=Row.of_at hP.at_
 have q1:=hP.ents
 have q2:=hP.pts
 have q3:=hP.ord
 refine vI rfl ?_
 unfold nT
 refine oy ?_
 repeat' (first|refine go1 ?_|refine zg λ_ _=>?_|refine zi λ_ _=>?_|refine fD ?_ ?_|(refine zC rfl (aJa (M:=M) (m:=m) _ (by exact fx)) ?_;rintro _ wa ⟨c1,rfl,p1,la,hc1,xa⟩;have sa:=xa.size)|(refine zC rfl (aKh (m:=sp) _ (by exact fx)) ?_;rintro _ wc ⟨c2,rfl,p2,hc2,xc⟩;have lc:=p2.lt;have sc:=xc.size)|(refine zC rfl (wU (M:= []) (v:=vo) (l:=l.map (fun x:Ent=>x.id)) _ (SlE.toR (F:=bL) (ag:=false) (SlE.ext (w:=w) (by exact fx) q3) (by simp)) (by simp;omega) (by simp)) ?_;rintro v5 wb ⟨o5,xb⟩;have lb:=o5.lt;have gb:=o5.base;replace o5:=bR.toOwn o5;have sb:=xb.size;obtain ⟨bb,cb,rfl⟩:=o5.sl.form)|refine zD (cs:= [.map (some c1),.slice bb (l.map (fun x:Ent=>x.id)).length cb,.map (some c2)]) rfl rfl (fun bp wp xp ap rp hp0=>?_))
 all_goals
  rename_i xz
  have s0:=xz.size
  have szp:=xp.size
  have lp:=ap.lt
  generalize Value.slice bb (l.map (fun x:Ent=>x.id)).length cb=v5 at*
  have hmm:∀b∈dT bp c1 c2 v5,w.heap.size≤b:=fun b hb=>by
   simp only [List.mem_cons] at hb
   rcases hb with rfl|rfl|rfl|hb
   ·omega
   ·omega
   ·omega
   ·have:=gb b hb;omega
  have oo:=Own.lower (B':=w.heap.size) (Own.ext (show Ext _ wp by exact fx) o5) (by omega)
  refine aA rfl ⟨bp,dT bp c1 c2 v5,rfl,⟨⟨c1,v5,c2,m,sp,⟨ap,?_,by exact fx,oo,hP.inv,?_,by omega,by omega,by omega⟩,rfl⟩,⟨c1,v5,c2,m,sp,⟨ap,?_,by exact fx,oo.sl,hP.inv⟩⟩,fun b hb h=>by have:=hM b h;have:=hmm b hb;omega⟩,by exact fx⟩
  ·exact (p1 _ (q1.step (show Ext w _ by exact fx) (by simp) (by simp) (fun b hb=>.inr (hmm b hb)))).ext (by exact fx)
  ·have n5:(aB v5).Nodup:=by
    cases v5<;>try exact List.nodup_nil
    rename_i b _ _;cases b<;>simp [aB]
   have:∀b∈aB v5,b≠bp∧b≠c1∧b≠c2:=fun b hb=>by have:=gb b hb;have:=lb b hb;omega
   simp only [List.nodup_cons,List.mem_cons,not_or]
   exact ⟨⟨by omega,by omega,fun h=>(this _ h).1 rfl⟩,⟨by omega,fun h=>(this _ h).2.1 rfl⟩,fun h=>(this _ h).2.2 rfl,n5⟩
  ·exact (p1 _ (q1.step (show Ext w _ by exact fx) (by simp) (by simp) (fun b hb=>(List.mem_append.1 hb).imp id (hmm b)))).ext (by exact fx)
attribute [local irreducible] bT cE eO
end
end Go.Proofs.YtgloknkcfchnlaaGreat
