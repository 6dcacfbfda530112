/- Contracts: adding to a graph. Contracts: nil graphs. Plain:  -/
import Derived.Test.YtgloknkcfchnlaaGreatZ19
set_option linter.unusedVariables false
set_option linter.unusedSimpArgs false
namespace Go.Proofs.YtgloknkcfchnlaaGreat
section
open Go Go.K
attribute [local irreducible] aF aP bG KOp.wp K.Spec u32 leS vnS str aR dE bS idT aO aE aQ idN bB cH bY
theorem xJ (v:Value):(aB v).Nodup:=by
 unfold aB
 split<;>simp
theorem bBl {l:List Ent} {t:Tx} {fee:Int} (h:lS t fee≠0):eO l t fee=(l,lS t fee):=by
 unfold eO lS at*
 by_cases h1:aE t≠0
 ·rw [if_pos h1,if_pos h1]
 ·rw [if_neg h1] at*
  rw [if_neg h1]
  by_cases h2:aQ t=true
  ·rw [if_pos h2,if_pos h2]
  ·rw [if_neg h2] at*
   rw [if_neg h2]
   by_cases h3:(!cD fee)=true
   ·rw [if_pos h3,if_pos h3]
   ·rw [if_neg h3] at h;exact absurd rfl h
theorem yD {l:List Ent} {t:Tx} {fee:Int} (h:lS t fee=0) (hw:aE t=0→aQ t=false→cD fee=true→True):eO l t fee=if l.any (fun x=>decide (x.id=idT t)) then (l,7) else if t.ins.any (fun i=>l.any fun x=>spends x i.p) then (l,15) else (l++ [⟨t,idT t,fee,(aO t:Nat)⟩],0):=by
 unfold eO lS at*
 by_cases h1:aE t≠0
 ·rw [if_pos h1] at h;exact absurd h h1
 ·rw [if_neg h1] at*
  by_cases h2:aQ t=true
  ·rw [if_pos h2] at h;cases h
  ·rw [if_neg h2] at*
   by_cases h3:(!cD fee)=true
   ·rw [if_pos h3] at h;cases h
   ·rw [if_neg h3]
set_option maxHeartbeats 2000000 in
theorem bMf {B g:Nat} {M N:List Nat} {l:List Ent} {cs:List Value} {t:Tx} (fee:Int) (w:World) (hG:Gr w B g M l) (ht:txR.rel N w cs t) (hs:t.Sm) (hf:sG fee) (hN:∀b∈N,b<w.heap.size) (hMN:∀b∈M,b∈N) (hn:l.length≤1000):K.Spec Tryz.prog F.graph_Graph_Add [.pointer (some ⟨g,0,none⟩),.agg cs.toArray,.int .i64 fee] w fun r w'=>
  ∃M',r=.int .i64 (eO l t fee).2∧Gr w' B g M' (eO l t fee).1∧Chg M w w'∧(∀b∈M',b∈M∨w.heap.size≤b)∧((eO l t fee).2≠0→Ext w w'):=by
 have hG0:=hG
 obtain ⟨b1,vo,b2,m,sp,hP,rfl⟩:=hG
 have rg:Row w ⟨g,0,none⟩ [.map (some b1),vo,.map (some b2)]:=Row.of_at hP.at_
 have hq1:=hP.ents
 have hq2:=hP.pts
 have ht0:=ht
 obtain ⟨iv,ov,rfl,h1,h2,h3⟩:=ht
 by_cases he0:lS t fee=0
 ·refine kP rfl ?_
  unfold iH
  refine oy ?_
  repeat' (first|refine go1 ?_|refine zg λ_ _=>?_|refine zi λ_ _=>?_|refine zL rfl (fun h=>absurd h (by decide)) (fun h=>?_)|refine zD rfl rfl (fun bp wp xp ap (rp:Row wp ⟨bp,0,none⟩ (aJ t iv ov)) hp0=>?_)|(refine zC rfl (aB9 (M:=N) (cs:=aJ t iv ov) (t:=t) fee _ (by exact fx) hs hf (fun b hb=>nLt (hN b hb) (Ext.size (by exact fx)))) ?_;rintro _ w5 ⟨ds,rfl,d1,d2,d3,x5⟩;obtain ⟨hok,he5⟩:=d3 he0;rw [he0];clear d3;generalize hxe:(⟨t,idT t,fee,(aO t:Nat)⟩:Ent)=x at hok he5 d1 d2 ⊢;have htx:x.tx=t:=(by rw [←hxe]);have hid:x.id=idT t:=(by rw [←hxe]);have he5':=he5;obtain ⟨iv5,ov5,rfl,o1,o2,o3⟩:=he5)|refine zE (d':=7) (fun _=>rfl) rfl rfl d2 (fun b7 w7 x7 a7 (r7:Row w7 ⟨b7,0,none⟩ (bC x iv5 ov5)) hb7=>?_)|refine wC (d:=some 35) (KE:=sK) (F:=dC) (M:=dT g b1 b2 vo) (k:=x.id) rfl rfl (by exact fx) rfl rfl (fun y cs hy hr=>?_) (fun hno=>?_)|(refine zH (d:=some 9) (fun b9 w9 x9 a9 hb9=>?_);have s9:w.heap.size≤b9:=nTr (Ext.size (w:=w) (by exact fx)) hb9;have s79:w7.heap.size≤b9:=nTr (Ext.size (w:=w7) (by exact fx)) hb9)|(obtain ⟨iv9,ov9,rfl,q1,q2,q3⟩:=hr;have i1:=q1.one;have i2:=q2.one;refine aU (w0:=w) (vs:=bC y iv9 ov9) (by exact fx) s9 (by focus (repeat (first|assumption|(apply At.ext;assumption)))) rfl rfl rfl rfl (by simp [bC,i1,i2];exact ⟨rfl,rfl,rfl,rfl,rfl⟩) (fun w10 x10 c10 a10 r10=>?_);clear q1 q2)|refine aU (w0:=w) (vs:=aDa) (by exact fx) s9 (by focus (repeat (first|assumption|(apply At.ext;assumption)))) rfl rfl rfl rfl rfl (fun w10 x10 c10 a10 r10=>?_)|refine zG (E:=inR) (M:=N) (l:=t.ins) rfl (SlR.ext h1 (by exact fx)) ?_)
  ·rw [hP.inv.ent] at hy
   have hany:l.any (fun x=>decide (x.id=idT t))=true:=by
    rw [List.any_eq_true]
    exact ⟨y,List.mem_of_find?_eq_some hy,by have:=List.find?_some hy;rw [←hid];exact this⟩
   rw [yD he0 (fun _ _ _=>trivial),if_pos hany]
   exact aA rfl ⟨_,rfl,hG0.ext x10,x10.mono (by simp),fun b hb=>.inl hb,fun _=>x10⟩
  ·have l7:=a7.lt
   have lp:=ap.lt
   have s5:=x5.size
   have s7:=x7.size
   have sp:=xp.size
   have ap0:=At.chg c10 (At.ext (show Ext wp w9 by exact fx) ap) (by simp;omega)
   have a70:=At.chg c10 (At.ext (show Ext w7 w9 by exact fx) a7) (by simp;omega)
   have x59:Ext w5 w9:=by exact fx
   have k1:=o1.lt
   have k2:=o2.lt
   have e10:dC.rel N w10 (bC x iv5 ov5) x:=by
    have n1:b9∉aB iv5:=fun h=>by have:=k1 _ h;omega
    have n2:b9∉aB ov5:=fun h=>by have:=k2 _ h;omega
    have p1:=(o1.step (M':=b9::N) x59 (by simp) (fun b hb=>by rcases List.mem_cons.1 hb with h|h;(right;omega);exact .inl h)).step (M':=N) c10 (by intro y hy;simp at hy;subst hy;exact ⟨n1,.inl (by simp)⟩) (fun _ h=>.inl (by simp [h]))
    have p2:=(o2.step (M':=b9::N) x59 (by simp) (fun b hb=>by rcases List.mem_cons.1 hb with h|h;(right;omega);exact .inl h)).step (M':=N) c10 (by intro y hy;simp at hy;subst hy;exact ⟨n2,.inl (by simp)⟩) (fun _ h=>.inl (by simp [h]))
    exact aOq.rel (B:=w.heap.size) ⟨iv5,ov5,rfl,p1.lower sp,p2.lower sp,o3⟩ hN
   have rp0:Row w10 ⟨bp,0,none⟩ (aJ t iv ov):=Row.of_at ap0
   have r70:Row w10 ⟨b7,0,none⟩ (bC x iv5 ov5):=Row.of_at a70
   have hb7:w.heap.size≤b7:=by omega
   have hbp:=hp0
   have hl1:=Gr.lt hG0
   have hins:=hs.ins
   clear ‹Ext w7 _›
   clear x59 k1 k2 o1 o2 he5' c10 a10 r10 x9 a9 hb9 s9 s79 x7 a7 r7 x5 xp ap rp l7 lp s5 s7 sp hp0
   repeat' (first|refine go1 ?_|refine zg λ_ _=>?_|refine zi λ_ _=>?_|refine zL rfl (fun h=>?_) (fun h=>?_)|refine zG (E:=inR) (M:=N) (l:=t.ins) rfl (SlR.ext h1 (by exact fx)) ?_|(refine aI (fun (i:Nat) w'=>Ext w10 w'∧i≤t.ins.length∧∀j (hj:j<t.ins.length),j<i→aL sp t.ins[j].p=none) (fun i=> [(0,.pointer (some ⟨g,0,none⟩)),(4,.pointer (some ⟨bp,0,none⟩)),(7,.pointer (some ⟨b7,0,none⟩)),(40,iv),(41,.int .i64 (t.ins.length:Nat)),(42,.int .i64 i)]) (fun i=>t.ins.length - i) 0 ⟨rfl,rfl,rfl,rfl,rfl,rfl,trivial⟩ ⟨by exact fx,by simp,fun j hj h=>by omega⟩ ?_;rintro i ρ w3 ⟨x3,hi,hfr⟩)|(refine aM (d:=some 44) (E:=inR) (M:=N) rfl rfl (n:=i) (l:=t.ins) (SlR.ext h1 (x10.trans x3)) rfl (by omega) (fun ad cs r4 he=>?_);obtain ⟨wv,rfl,hw,hp5,hp6⟩:=he;obtain ⟨bs1,cp1,rfl⟩:=hw.form;have hil:i<t.ins.length:=(by omega))|refine zE (d':=12) (fun _=>rfl) rfl rfl rfl (fun b8 w8 x8 a8 (r8:Row w8 ⟨b8,0,none⟩ (eJ t.ins[i] (.slice bs1 t.ins[i].wit.length cp1))) hb8=>?_)|refine lU (d:=some 53) (E:=ptK) (fv:=Value.string) (k:=t.ins[i].p) rfl rfl (dI.ext (w:=w) (by exact fx) hq2) rfl rfl (fun y hy=>?_) (fun hn2=>?_))
   ·rw [hP.inv.spt,Option.map_eq_some_iff] at hy
    obtain ⟨z,hz, -⟩:=hy
    have hany:¬l.any (fun x=>decide (x.id=idT t))=true:=by
     rw [hP.inv.ent] at hno
     rw [List.any_eq_true]
     rintro ⟨y,h1,h2⟩
     exact (List.find?_eq_none.1 hno y h1) (by rw [hid];exact h2)
    have hany2:t.ins.any (fun i=>l.any fun x=>spends x i.p)=true:=List.any_eq_true.2 ⟨_,gMe hil,List.any_eq_true.2 ⟨z,List.mem_of_find?_eq_some hz,(by have:=List.find?_some hz;exact this)⟩⟩
    rw [yD he0 (fun _ _ _=>trivial),if_neg hany,if_pos hany2]
    have xx:Ext w _:=Ext.trans (x10.trans (x3.trans x8)) (by assumption)
    exact aA rfl ⟨_,rfl,hG0.ext xx,xx.mono (by simp),fun b hb=>.inl hb,fun _=>xx⟩
   ·exact ⟨i+1,⟨rfl,rfl,rfl,rfl,rfl,rfl,trivial⟩,⟨by exact fx,by omega,fun j hj h=>by
     rcases Nat.lt_succ_iff_lt_or_eq.1 h with h5|rfl
     ·exact hfr j hj h5
     ·exact hn2⟩,by omega⟩
   ·rename_i wB xB
    have hfree:∀j (hj:j<t.ins.length),aL sp t.ins[j].p=none:=fun j hj=>hfr j hj (by omega)
    have x0B:=x3.trans xB
    have xwB:Ext w wB:=x10.trans x0B
    have eB:dC.rel (dT g b1 b2 vo) wB (bC x iv5 ov5) x:=dC.step e10 x0B (by simp) (fun b hb=>.inl (hMN b hb))
    have apB:=ap0.ext x0B
    have a7B:=a70.ext x0B
    have agB:=hP.at_.ext xwB
    have mB:=hq1.ext xwB
    have pB:=hq2.ext xwB
    have oB:=hP.ord.ext xwB
    have sB:=xwB.size
    have nd:=hP.nd
    simp only [List.nodup_cons,List.mem_cons,not_or] at nd
    obtain ⟨⟨n1,n2,n3⟩,⟨n4,n5⟩,n6,n7⟩:=nd
    have l1:b1<w.heap.size:=hl1 _ (by simp)
    have l2:b2<w.heap.size:=hl1 _ (by simp)
    have lg:g<w.heap.size:=hl1 _ (by simp)
    have lo:∀b∈aB vo,b<w.heap.size:=fun b hb=>hl1 b (by simp [hb])
    clear x3 xB x0B hi x10 ap0 a70 rp0 r70 e10 rg hfr h
    refine aGc (KE:=sK) (F:=dC) (M:=dT g b1 b2 vo) (k:=x.id) (v:=x) (cs:=bC x iv5 ov5) rfl rfl rfl mB eB (by simp) rfl rfl (fun w11 c11 m11=>?_)
    have ag11:=agB.chg c11 (by simp;omega)
    have a711:=a7B.chg c11 (by simp;omega)
    have ap11:=apB.chg c11 (by simp;omega)
    have p11:=pB.chg c11 (by simp;omega)
    have o11:=oB.chg c11 (fun b hb h=>by simp at h;subst h;exact n5 hb)
    have rg11:Row w11 ⟨g,0,none⟩ [.map (some b1),vo,.map (some b2)]:=Row.of_at ag11
    have r711:Row w11 ⟨b7,0,none⟩ (bC x iv5 ov5):=Row.of_at a711
    have C11:Chg (dT g b1 b2 vo) w w11:=(xwB.chg c11).mono (fun b hb=>by simp at hb;subst hb;exact .inl (by simp))
    have s11:=c11.size
    have sB11:w.heap.size≤w11.heap.size:=nTr sB s11
    have hBw:B≤w.heap.size:=(by have:=hP.lo;omega)
    clear agB a7B apB pB oB mB eB c11 xwB
    repeat' (first|refine go1 ?_|refine zg λ_ _=>?_|refine zi λ_ _=>?_|refine fD ?_ ?_|refine zI (d:=some 72) (cs:= [.string x.id]) rfl (fun bz wz xz az hbz=>?_))
    all_goals
     refine kX (d:=some 73) (E:=bL) (B:=B) (l:=l.map (fun x:Ent=>x.id)) (l2:= [x.id]) (n:=1) (new:= [.string x.id]) rfl (o11.ext (by exact fx)) (nTr (nTr hBw sB11) (Ext.size (w:=w11) (by exact fx))) rfl rfl (dX (by focus (repeat (first|assumption|(apply At.ext;assumption)))) rfl) rfl rfl (by simp only [List.length_map,List.length_cons,List.length_nil];omega) (fun v13 w13 o13 _ c13 hb13=>?_)
     have c1:Chg (aB vo) w11 w13:=Ext.chg (by exact fx) c13
     have hb1:∀b∈aB v13,b∈aB vo∨w11.heap.size≤b:=fun b hb=>(hb13 b hb).imp id (nTr (Ext.size (by exact fx)))
     clear c13 hb13 az hbz xz
     clear ‹Ext w11 _›
     have s13:=c1.size
     have ag13:=ag11.chg c1 n3
     have ap13:=ap11.chg c1 (fun h=>by have:=lo _ h;omega)
     have a713:=a711.chg c1 (fun h=>by have:=lo _ h;omega)
     have p13:=p11.chg c1 n6
     have rg13:Row w13 ⟨g,0,none⟩ [.map (some b1),vo,.map (some b2)]:=Row.of_at ag13
     repeat (first|refine go1 ?_|refine zg λ_ _=>?_|refine zi λ_ _=>?_)
     have hv1:v13.oneCell'=true:=by obtain ⟨_,_,e⟩:=o13.sl.form;rw [e];rfl
     refine bO (b:=g) (o:=1) (v:=v13) rfl rfl hv1 ag13 (by simp) (fun w14 c14 ag14=>?_)
     have ag14:At w14 g (.cells [.map (some b1),v13,.map (some b2)].toArray T.graph_Graph (0,0)):=ag14
     have rg14:Row w14 ⟨g,0,none⟩ [.map (some b1),v13,.map (some b2)]:=Row.of_at ag14
     have a714:=a713.chg c14 (by simp;omega)
     have ap14:=ap13.chg c14 (by simp;omega)
     have r714:Row w14 ⟨b7,0,none⟩ (bC x iv5 ov5):=Row.of_at a714
     have rp14:Row w14 ⟨bp,0,none⟩ (aJ t iv ov):=Row.of_at ap14
     have hv3:∀b,b<w.heap.size→b∉aB vo→b∉aB v13:=fun b hb hn h=>by
      rcases hb1 b h with h1|h1
      ·exact hn h1
      ·omega
     have o14:=o13.chg c14 (fun b hb h=>by simp at h;subst h;exact hv3 _ lg n3 hb)
     have p14:=p13.chg c14 (by simp;omega)
     have hM':∀b∈dT g b1 b2 v13,b∈dT g b1 b2 vo∨w11.heap.size≤b:=fun b hb=>by
      simp only [List.mem_cons] at hb ⊢
      rcases hb with rfl|rfl|rfl|hb
      ·exact .inl (.inl rfl)
      ·exact .inl (.inr (.inl rfl))
      ·exact .inl (.inr (.inr (.inl rfl)))
      ·exact (hb1 b hb).imp (fun h=>.inr (.inr (.inr h))) id
     have m13:pO sK dC (dT g b1 b2 v13) w13 b1 (fQ m x.id x):=m11.step c1 n5 (fun b hb=>.inl (by simp [hb])) hM'
     have m14:=m13.step (M':=dT g b1 b2 v13) c14 (by simp;omega) (fun b hb=>by simp at hb;subst hb;exact .inl (by simp)) (fun _ h=>.inl h)
     have C14:Chg (dT g b1 b2 vo) w w14:=((C11.trans c1).trans c14).mono (fun b hb=>by simp at hb ⊢;grind)
     have s14:=c14.size
     have hi14:SlR inR N w14 iv t.ins:=h1.step C14 (fun b hb=>.inl (hMN b hb)) (fun _ h=>.inl h)
     clear ag13 rg13 a713 ap13 o13 p13 m13 c14 c1 m11 ag11 a711 ap11 p11 o11 rg11 r711 C11
     clear ap14
     repeat' (first|refine go1 ?_|refine zg λ_ _=>?_|refine zi λ_ _=>?_|refine zL rfl (fun h=>?_) (fun h=>?_)|refine zG (E:=inR) (M:=N) (l:=t.ins) rfl (SlR.ext hi14 (by exact fx)) ?_|(refine aI (fun (i:Nat) w'=>Chg [b2] w14 w'∧i≤t.ins.length∧dI ptK Value.string w' b2 (nM sp (t.ins.take i) x.id)) (fun i=> [(0,.pointer (some ⟨g,0,none⟩)),(7,.pointer (some ⟨b7,0,none⟩)),(77,iv),(78,.int .i64 (t.ins.length:Nat)),(79,.int .i64 i)]) (fun i=>t.ins.length - i) 0 ⟨rfl,rfl,rfl,rfl,rfl,trivial⟩ ⟨(show Ext w14 _ by exact fx).mono (by simp),by simp,dI.ext (by exact fx) p14⟩ ?_;rintro i ρ w3 ⟨x3,hi,hmp⟩))
     ·have hi3:SlR inR N w3 iv t.ins:=hi14.step x3 (fun b hb=>.inl (hMN b (by simp at hb;simp [hb]))) (fun _ h=>.inl h)
      have rg3:Row w3 ⟨g,0,none⟩ [.map (some b1),v13,.map (some b2)]:=Row.of_at (ag14.chg x3 (by simp;omega))
      have r73:Row w3 ⟨b7,0,none⟩ (bC x iv5 ov5):=Row.of_at (a714.chg x3 (by simp;omega))
      clear r714 rp14 rg14
      repeat' (first|refine go1 ?_|refine zg λ_ _=>?_|refine zi λ_ _=>?_|(refine aM (d:=some 81) (E:=inR) (M:=N) rfl rfl (n:=i) (l:=t.ins) (SlR.ext hi3 (by exact fx)) rfl (by omega) (fun ad cs r4 he=>?_);obtain ⟨wv,rfl,hw,hp5,hp6⟩:=he;obtain ⟨bs1,cp1,rfl⟩:=hw.form;have hil:i<t.ins.length:=(by omega))|refine zE (d':=16) (fun _=>rfl) rfl rfl rfl (fun b8 w8 x8 a8 (r8:Row w8 ⟨b8,0,none⟩ (eJ t.ins[i] (.slice bs1 t.ins[i].wit.length cp1))) hb8=>?_)|(refine eQ (E:=ptK) (fv:=Value.string) (k:=t.ins[i].p) (v:=x.id) rfl rfl rfl (dI.ext (w:=w3) (by exact fx) hmp) rfl rfl (fun w5 c5 m5=>?_);have x35:Chg [b2] w3 w5:=Ext.chg (by exact fx) c5))
      exact ⟨i+1,⟨rfl,rfl,rfl,rfl,rfl,trivial⟩,⟨(x3.trans x35).mono (by simp),by omega,by rw [aMu hil];exact m5⟩,by omega⟩
     ·have ei:i=t.ins.length:=by omega
      subst ei
      rw [tLe (Nat.le_refl _)] at hmp
      have hany:¬l.any (fun x=>decide (x.id=idT t))=true:=by
       rw [hP.inv.ent] at hno
       rw [List.any_eq_true]
       rintro ⟨y,h1,h2⟩
       exact (List.find?_eq_none.1 hno y h1) (by rw [hid];exact h2)
      have hnone:∀i∈t.ins,∀y∈l,spends y i.p=false:=fun i hi y hy=>by
       obtain ⟨j,hj,rfl⟩:=List.getElem_of_mem hi
       have h5:=hfree j hj
       rw [hP.inv.spt,Option.map_eq_none_iff] at h5
       have h6:=List.find?_eq_none.1 h5 y hy
       simpa using h6
      have hany2:¬t.ins.any (fun i=>l.any fun x=>spends x i.p)=true:=by
       rw [List.any_eq_true]
       rintro ⟨i,hi,h⟩
       obtain ⟨y,hy,h⟩:=List.any_eq_true.1 h
       rw [hnone i hi y hy] at h;cases h
      rw [yD he0 (fun _ _ _=>trivial),if_neg hany,if_neg hany2,hxe]
      have hno':∀y∈l,y.id≠x.id:=fun y hy e=>hany (List.any_eq_true.2 ⟨y,hy,dTr (by rw [e,hid])⟩)
      have hinv:GI (fQ m x.id x) (nM sp x.tx.ins x.id) (l++ [x]):=GI.add hP.inv hok hno' (fun y hy p hp=>by
       unfold spends at hp
       obtain ⟨i,hi,h⟩:=List.any_eq_true.1 hp
       rw [htx] at hi
       rw [←of_decide_eq_true h]
       exact hnone i hi y hy)
      rw [htx] at hinv
      have nb2:b2∉aB v13:=hv3 _ l2 n6
      have nb1:b1∉aB v13:=hv3 _ l1 n5
      have nbg:g∉aB v13:=hv3 _ lg n3
      have n13:(aB v13).Nodup:=xJ v13
      have hC:Chg (dT g b1 b2 vo) w w3:=(C14.trans x3).mono (fun b hb=>by simp at hb ⊢;grind)
      have e13:(l++ [x]).map (·.id)=l.map (·.id)++ [x.id]:=by simp
      refine aA rfl ⟨_,rfl,⟨b1,v13,b2,fQ m x.id x,nM sp t.ins x.id,⟨ag14.chg x3 (by simp;omega),m14.step x3 (by simp;omega) (fun b hb=>.inl (by simp at hb;simp [hb])) (fun _ h=>.inl h),hmp,?_,hinv,?_,hP.lo⟩,rfl⟩,hC,fun b hb=>(hM' b hb).imp id (nTr sB11),fun h=>absurd rfl h⟩
      ·rw [e13];exact o14.chg x3 (fun b hb h=>by simp at h;subst h;exact nb2 hb)
      ·simp only [List.nodup_cons,List.mem_cons,not_or]
       exact ⟨⟨n1,n2,nbg⟩,⟨n4,nb1⟩,nb2,n13⟩
 ·refine kP rfl ?_
  unfold iH
  refine oy ?_
  repeat' (first|refine go1 ?_|refine zg λ_ _=>?_|refine zi λ_ _=>?_|refine zL rfl (fun h=>?_) (fun h=>absurd h (by simpa using he0))|refine zN rfl (fun h=>?_) (fun h=>absurd h he0)|refine zD rfl rfl (fun bp wp xp ap (rp:Row wp ⟨bp,0,none⟩ (aJ t iv ov)) hp0=>?_)|(refine zC rfl (aB9 (M:=N) (cs:=aJ t iv ov) (t:=t) fee _ (by exact fx) hs hf (fun b hb=>nLt (hN b hb) (Ext.size (by exact fx)))) ?_;rintro _ w5 ⟨ds,rfl,d1,d2, -,x5⟩)|refine zE (d':=7) (fun _=>rfl) d1 rfl d2 (fun b7 w7 x7 a7 r7 hb7=>?_))
  have xx:Ext w w7:=by exact fx
  rw [bBl he0]
  exact aA rfl ⟨_,rfl,hG0.ext xx,xx.mono (by simp),fun b hb=>.inl hb,fun _=>xx⟩
theorem aU6 {B g:Nat} {M N:List Nat} {l:List Ent} {cs:List Value} {t:Tx} (fee:Int) (w:World) (hG:Gr w B g M l) (ht:txR.rel N w cs t) (hs:t.Sm) (hf:sG fee) (hN:∀b∈N,b<w.heap.size) (hMN:∀b∈M,b∈N) (hn:l.length≤1000):K.Spec Tryz.prog F.graph_Graph_Add [.pointer (some ⟨g,0,none⟩),.agg cs.toArray,.int .i64 fee] w fun r w'=>
  ∃M',r=.int .i64 (eO l t fee).2∧Gr w' B g M' (eO l t fee).1∧Chg M w w'∧∀b∈M',b∈M∨w.heap.size≤b:=
 eZ (bMf fee w hG ht hs hf hN hMN hn) fun _ _ ⟨M',h1,h2,h3,h4,_⟩=>⟨M',h1,h2,h3,h4⟩
end
section
open Go Go.K
attribute [local irreducible] aF aP bG KOp.wp K.Spec u32 leS vnS str aR dE bS idT aO aE aQ idN bB cH bY
theorem bF2 (id:ByteArray) (w:World):K.Spec Tryz.prog F.graph_Graph_Get [.pointer none,.string id] w fun r w'=>r=.tuple #[.agg aDa.toArray,.bool false]∧Ext w w':=by
 refine xM rfl ?_
 unfold qP
 refine oy ?_
 repeat' (first|refine go1 ?_|refine zg λ_ _=>?_|refine zi λ_ _=>?_|refine zH (fun b4 w4 x4 a4 hb4=>?_)|refine aT (cs:=aDa) rfl ?_|refine aU (w0:=w) (vs:=aDa) (by exact fx) (by omega) (by focus (repeat (first|assumption|(apply At.ext;assumption)))) rfl rfl rfl rfl rfl (fun w9 x9 c9 a9 r9=>?_))
 exact aA (iR (bD r9 rfl rfl) bJ) ⟨rfl,x9⟩
theorem bNq (p:Pt) (w:World):K.Spec Tryz.prog F.graph_Graph_Out [.pointer none,.agg p.cs.toArray] w fun r w'=>r=.tuple #[.agg #[.int .i64 0,.string ⟨#[]⟩],.bool false]∧Ext w w':=by
 refine yA rfl ?_
 unfold pS
 refine oy ?_
 repeat' (first|refine go1 ?_|refine zg λ_ _=>?_|refine zi λ_ _=>?_|(first|refine zD rfl rfl (fun bp wp xp ap rp hp0=>?_)|refine zE (fun _=>rfl) rfl rfl rfl (fun bq wq xq aq rq hq0=>?_))|refine zH (fun b4 w4 x4 a4 hb4=>?_)|(refine zC rfl (bF2 p.s _) ?_;rintro _ w5 ⟨rfl,x5⟩)|refine aU (w0:=w) (vs:= [.int .i64 0,.string ⟨#[]⟩]) (by exact fx) (by have:=Ext.size (w:=w) (w':=wp) (by exact fx);omega) (by focus (repeat (first|assumption|(apply At.ext;assumption)))) rfl rfl rfl rfl rfl (fun w9 x9 c9 a9 r9=>?_))
 exact aA (iR (bD r9 rfl rfl) bJ) ⟨rfl,x9⟩
theorem all_nil (w:World):K.Spec Tryz.prog F.graph_Graph_All [.pointer none] w fun r w'=>r=.slice none 0 0∧Ext w w':=by
 refine xF rfl ?_
 unfold qC
 refine oy ?_
 repeat' (first|refine go1 ?_|refine zg λ_ _=>?_|refine zi λ_ _=>?_|(first|refine zD rfl rfl (fun bp wp xp ap rp hp0=>?_)|refine zE (fun _=>rfl) rfl rfl rfl (fun bq wq xq aq rq hq0=>?_)))
 exact aA rfl ⟨rfl,by exact fx⟩
theorem sum_nil {v:Value} {ids:List ByteArray} (w:World) (hi:SlE bL w v ids) (hn:ids.length≤1):K.Spec Tryz.prog F.graph_Graph_Sum [.pointer none,v] w fun r w'=>r=.tuple #[.int .i64 0,.int .i64 0]∧Ext w w':=by
 refine xX rfl ?_
 unfold qK
 refine oy ?_
 repeat' (first|refine go1 ?_|refine zg λ_ _=>?_|refine zi λ_ _=>?_|refine zL rfl (fun h=>?_) (fun h=>?_)|(refine iQ (E:=sK) (fv:=fun n:Nat=>Value.int .i64 (n:Nat)) (fun bm w1 x1 m1 hb1=>?_);have lm:=m1.lt)|refine aY rfl (SlE.ext (w:=w) (by exact fx) hi) ?_|(refine aI (fun (p:Nat) w'=>Ext w w'∧p≤ids.length∧(p=0→dI sK (fun n:Nat=>Value.int .i64 (n:Nat)) w' bm [])) (fun p=> [(0,.pointer none),(6,.int .i64 0),(7,.int .i64 0),(8,.map (some bm)),(14,v),(15,.int .i64 (ids.length:Nat)),(16,.int .i64 (p:Nat))]) (fun p=>ids.length - p) 0 ⟨rfl,rfl,rfl,rfl,rfl,rfl,rfl,trivial⟩ ⟨x1,by simp,fun _=>m1⟩ ?_;rintro i ρ w3 ⟨x3,hi3,hm⟩))
 ·have hi0:i=0:=by omega
  subst hi0
  have hil:0<ids.length:=by omega
  have hm:=hm rfl
  refine aS rfl rfl (n:=0) (l:=ids) (hi.ext x3) rfl hil (fun ad r5=>?_)
  have r5:Row w3 ad [Value.string ids[0]]:=r5
  repeat' (first|refine go1 ?_|refine zg λ_ _=>?_|refine zi λ_ _=>?_|refine eY (d:=some 22) (E:=sK) (fv:=fun n:Nat=>Value.int .i64 (n:Nat)) (k:=ids[0]) rfl rfl hm rfl rfl (fun c hcc=>by simp [aL] at hcc) (fun hcn=>?_)|(refine eQ (E:=sK) (fv:=fun n:Nat=>Value.int .i64 (n:Nat)) (k:=ids[0]) (v:=1) rfl rfl rfl hm rfl rfl (fun w4 c4 m4=>?_);have x4:Ext w w4:=(Ext.chg x3 c4).mono (by intro y hy;simp at hy;right;omega);clear x3)|(refine eY (d:=some 26) (E:=sK) (fv:=fun n:Nat=>Value.int .i64 (n:Nat)) (k:=ids[0]) rfl rfl m4 rfl rfl (fun c hcc=>?_) (fun hcn=>by rw [dG,if_pos rfl] at hcn;cases hcn);rw [dG,if_pos rfl] at hcc;injection hcc with hcc;subst hcc)|refine zL rfl (fun h9=>absurd h9 (by decide)) (fun h9=>?_)|(refine zC rfl (bF2 ids[0] _) ?_;rintro _ w5 ⟨rfl,x5⟩)|refine zE (d':=11) (fun _=>rfl) rfl rfl rfl (fun b6 w6 x6 a6 (r6:Row w6 ⟨b6,0,none⟩ aDa) hb6=>?_))
  exact ⟨1,⟨rfl,rfl,rfl,rfl,rfl,rfl,rfl,trivial⟩,⟨by exact fx,by omega,fun h=>by omega⟩,by omega⟩
 ·exact aA rfl ⟨rfl,x3⟩
end
end Go.Proofs.YtgloknkcfchnlaaGreat
namespace Go.K
section
open Go
variable {l:List Ent} {s:ByteArray}
theorem aPa (l:List Ent) (s:ByteArray):l.length=(cI l s).length:=(mZ _ _ _).symm
theorem bM9:∀{l:List Ent} {m:List Bool},(∀b∈m,b=false)→aK l m= []
 | [],m,_=>by cases m<;>rfl
 |_::_, [],_=>rfl
 |x::l,b::m,h=>by
  have hb:=h b (by simp)
  subst hb
  exact bM9 (l:=l) (m:=m) fun b hb=>h b (by simp [hb])
end
section
open Go
end
end Go.K
namespace Go.Proofs.YtgloknkcfchnlaaGreat
section
open Go Go.K
section
attribute [local irreducible] aF aP bG KOp.wp u32 leS vnS str aR dE bS idT aO aE aQ idN bB cH bY
theorem aJa {mb:Nat} {M:List Nat} {m:List (ByteArray × Ent)} (w:World) (h:pO sK dC M w mb m):K.Spec Tryz.prog F.maps_Clone_map_string_api_Entry_string_api_Entry [.map (some mb)] w fun v w'=>∃mb',v=.map (some mb')∧(∀M',pO sK dC M' w mb m→pO sK dC M' w' mb' m)∧mb'<w'.heap.size∧w.heap.size≤mb'∧Ext w w':=by
 obtain ⟨mv,h1,h2⟩:=h
 obtain ⟨es,clock,h1,h3⟩:=h1
 refine (AnyW.maps_Clone Tryz.cloneMap68 mb es clock w h1).mono fun e w' ⟨he,hw⟩=>⟨_,he,_,rfl,?_⟩
 subst hw
 have hx:=Ext.alloc w (.map es clock)
 refine ⟨fun M' h=>?_,(At.new w (.map es clock)).lt,Nat.le_refl _,hx⟩
 obtain ⟨mv,k1,h2⟩:=h
 obtain ⟨es',clock',k1,h3⟩:=k1
 have e:Obj.map es clock=Obj.map es' clock':=Option.some.inj ((show w.heap[mb]? =some (.map es clock) from h1).symm.trans k1)
 cases e
 exact ⟨mv,⟨es,clock,At.new _ _,h3⟩,h2.mono fun _ _ ⟨e,cs,e2,hr⟩=>⟨e,cs,e2,R.ext hr hx⟩⟩
theorem aKh {mb:Nat} {m:List (Pt × ByteArray)} (w:World) (h:dI ptK Value.string w mb m):K.Spec Tryz.prog F.maps_Clone_map_api_Point_string_api_Point_string [.map (some mb)] w fun v w'=>∃mb',v=.map (some mb')∧dI ptK Value.string w' mb' m∧w.heap.size≤mb'∧Ext w w':=by
 obtain ⟨es,clock,h1,h2⟩:=h
 refine (AnyW.maps_Clone Tryz.cloneMap70 mb es clock w h1).mono fun e w' ⟨he,hw⟩=>⟨_,he,_,rfl,?_⟩
 subst hw
 exact ⟨⟨es,clock,At.new _ _,h2⟩,Nat.le_refl _,Ext.alloc _ _⟩
end
attribute [local irreducible] aF aP bG KOp.wp K.Spec u32 leS vnS str aR dE bS idT aO aE aQ idN bB cH bY
set_option maxHeartbeats 1000000 in
theorem aHj {g:Nat} {M:List Nat} {l:List Ent} (w:World) (hG:GrR w g M l) (hM:∀b∈M,b<w.heap.size) (hn:l.length≤1000):K.Spec Tryz.prog F.graph_Graph_Copy [.pointer (some ⟨g,0,none⟩)] w fun r w'=>
  ∃g' M',r=.pointer (some ⟨g',0,none⟩)∧Gr w' w.heap.size g' M' l∧Ext w w':=by
 obtain ⟨b1,vo,b2,m,sp,hP⟩:=hG
 have rg:Row w ⟨g,0,none⟩ [.map (some b1),vo,.map (some b2)]:=Row.of_at hP.at_
 have q1:=hP.ents
 have q2:=hP.pts
 have q3:=hP.ord
 refine vI rfl ?_
 unfold nT
 refine oy ?_
 repeat' (first|refine go1 ?_|refine zg λ_ _=>?_|refine zi λ_ _=>?_|refine fD ?_ ?_|(refine zC rfl (aJa (M:=M) (m:=m) _ (by exact fx)) ?_;rintro _ wa ⟨c1,rfl,p1,la,hc1,xa⟩;have sa:=xa.size)|(refine zC rfl (aKh (m:=sp) _ (by exact fx)) ?_;rintro _ wc ⟨c2,rfl,p2,hc2,xc⟩;have lc:=p2.lt;have sc:=xc.size)|(refine zC rfl (wU (M:= []) (v:=vo) (l:=l.map (fun x:Ent=>x.id)) _ (SlE.toR (F:=bL) (ag:=false) (SlE.ext (w:=w) (by exact fx) q3) (by simp)) (by simp;omega) (by simp)) ?_;rintro v5 wb ⟨o5,xb⟩;have lb:=o5.lt;have gb:=o5.base;replace o5:=bR.toOwn o5;have sb:=xb.size;obtain ⟨bb,cb,rfl⟩:=o5.sl.form)|refine zD (cs:= [.map (some c1),.slice bb (l.map (fun x:Ent=>x.id)).length cb,.map (some c2)]) rfl rfl (fun bp wp xp ap rp hp0=>?_))
 all_goals
  rename_i xz
  have s0:=xz.size
  have szp:=xp.size
  have lp:=ap.lt
  generalize Value.slice bb (l.map (fun x:Ent=>x.id)).length cb=v5 at*
  have hmm:∀b∈dT bp c1 c2 v5,w.heap.size≤b:=fun b hb=>by
   simp only [List.mem_cons] at hb
   rcases hb with rfl|rfl|rfl|hb
   ·omega
   ·omega
   ·omega
   ·have:=gb b hb;omega
  refine aA rfl ⟨bp,_,rfl,⟨c1,v5,c2,m,sp,⟨ap,?_,by exact fx,?_,hP.inv,?_,by omega,by omega,by omega⟩,rfl⟩,by exact fx⟩
  ·exact (p1 _ (q1.step (show Ext w _ by exact fx) (by simp) (by simp) (fun b hb=>.inr (hmm b hb)))).ext (by exact fx)
  ·exact Own.lower (Own.ext (by exact fx) o5) (by omega)
  ·have n5:(aB v5).Nodup:=by
    cases v5<;>try exact List.nodup_nil
    rename_i b _ _;cases b<;>simp [aB]
   have:∀b∈aB v5,b≠bp∧b≠c1∧b≠c2:=fun b hb=>by have:=gb b hb;have:=lb b hb;omega
   simp only [List.nodup_cons,List.mem_cons,not_or]
   exact ⟨⟨by omega,by omega,fun h=>(this _ h).1 rfl⟩,⟨by omega,fun h=>(this _ h).2.1 rfl⟩,fun h=>(this _ h).2.2 rfl,n5⟩
end
end Go.Proofs.YtgloknkcfchnlaaGreat
