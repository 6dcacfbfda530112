/- Contracts: dropping from a graph, beside blocks to which non -/
import Derived.Shelf.Bits.Mul64
import Derived.Ground.SlgnProg
import Derived.Ground.SlgfProg
import Derived.Test.YtfebcajheojodaaGreatDoorProg
import Derived.Ground.NamesProg
import Derived.KernelRfl
import Derived.Test.YtfebcajheojodaaGreatDoorZ22
set_option linter.unusedVariables false
set_option linter.unusedSimpArgs false
namespace Go.Proofs.YtfebcajheojodaaGreatDoor
section
open Go Go.K
attribute [local irreducible] aO aU bQ KOp.wp K.Spec u32 leS vnS str aV cU cD idT aR aG aX idN bD cF bT bH
theorem Gr.both {w:World} {B g:Nat} {M U:List Nat} {l:List Ent} (hG:Gr w B g M l) (hU:GrR w g (U++M) l):∃b1 vo b2 m sp,GrP w B g b1 vo b2 m sp l∧M=dQ g b1 b2 vo∧nG sK bF (U++M) w b1 m:=by
 obtain ⟨b1,vo,b2,m,sp,P,rfl⟩:=hG
 obtain ⟨b1',vo',b2',m',sp',Q⟩:=hU
 have e: [Value.map (some b1),vo,.map (some b2)]= [.map (some b1'),vo',.map (some b2')]:=by
  have h1:=P.at_
  have h2:=Q.at_
  unfold At at h1 h2
  rw [h1] at h2
  simpa using h2
 simp only [List.cons.injEq,Value.map.injEq,Option.some.injEq,and_true] at e
 obtain ⟨rfl,rfl,rfl⟩:=e
 exact ⟨b1,vo,b2,m',sp',⟨P.at_,Q.ents.step (Chg.refl [] _) (by simp) (by simp) (fun b hb=>.inl (List.mem_append_right _ hb)),Q.pts,P.ord,Q.inv,P.nd,P.lo⟩,rfl,Q.ents⟩
structure GrU (w:World) (B g:Nat) (M U:List Nat) (l:List Ent):Prop where
 gr:Gr w B g M l
 rd:GrR w g (U++M) l
 dj:∀b∈M,b∉U
theorem GrU.ext {w w':World} {B g:Nat} {M U:List Nat} {l:List Ent} (h:GrU w B g M U l) (c:Ext w w'):GrU w' B g M U l:=⟨h.gr.ext c,h.rd.ext c,h.dj⟩
theorem GrU.of {w:World} {B g:Nat} {M:List Nat} {l:List Ent} (h:Gr w B g M l):GrU w B g M [] l:=⟨h,h.r,by simp⟩
theorem GrU.more {w w':World} {B g:Nat} {M U U':List Nat} {l:List Ent} (h:GrU w B g M U l) (c:Ext w w') (hU:∀b∈U',b∈U∨w.heap.size≤b):GrU w' B g M U' l:=
 ⟨h.gr.ext c,h.rd.more c (fun b hb=>(List.mem_append.1 hb).elim (fun h1=>(hU b h1).imp (fun h2=>List.mem_append_left _ h2) id) (fun h1=>.inl (List.mem_append_right _ h1))),fun b hb h1=>(hU b h1).elim (h.dj b hb) (fun h2=>by have:=h.gr.lt b hb;omega)⟩
theorem GrU.chg {w w':World} {B g:Nat} {M U U':List Nat} {l:List Ent} (h:GrU w B g M U l) (c:Chg U w w') (hU:∀b∈U',b∈U∨w.heap.size≤b):GrU w' B g M U' l:=by
 have hlt:=h.gr.lt
 obtain ⟨b1,vo,b2,m,sp,P,rfl,q⟩:=Gr.both h.gr h.rd
 have dj:=h.dj
 have n1:=dj g (by simp)
 have n2:=dj b1 (by simp)
 have n3:=dj b2 (by simp)
 have o:=P.ord.chg c fun b hb h=>dj b (by simp [hb]) h
 have a:=P.at_.chg c n1
 have pp:=P.pts.chg c n3
 have e1:∀b∈U'++dQ g b1 b2 vo,b∈U++dQ g b1 b2 vo∨w.heap.size≤b:=fun b hb=>(List.mem_append.1 hb).elim (fun h1=>(hU b h1).imp (fun h2=>List.mem_append_left _ h2) id) (fun h1=>.inl (List.mem_append_right _ h1))
 have mm:=q.step (M':=U'++dQ g b1 b2 vo) c n2 (fun b hb=>.inl (List.mem_append_left _ hb)) e1
 have m0:=q.step (M':=dQ g b1 b2 vo) c n2 (fun b hb=>.inl (List.mem_append_left _ hb)) (fun b hb=>.inl (List.mem_append_right _ hb))
 exact ⟨⟨b1,vo,b2,m,sp,⟨a,m0,pp,o,P.inv,P.nd,P.lo⟩,rfl⟩,⟨b1,vo,b2,m,sp,⟨a,mm,pp,o.sl,P.inv⟩⟩,fun b hb h1=>(hU b h1).elim (dj b hb) (fun h2=>by have:=hlt b hb;omega)⟩
set_option maxHeartbeats 2000000 in
theorem bKt {B g:Nat} {M U:List Nat} {l:List Ent} (id:ByteArray) (w:World) (hG:Gr w B g M l) (hU:GrR w g (U++M) l) (hn:l.length≤1000):K.Spec Tryz.prog F.graph_Graph_Drop [.pointer (some ⟨g,0,none⟩),.string id] w fun r w'=>
  ∃M',r=.int .i64 (cA l id).2∧Gr w' B g M' (cA l id).1∧Chg M w w'∧(∀b∈M',b∈M∨w.heap.size≤b)∧GrR w' g (U++M') (cA l id).1:=by
 have hG0:=hG
 obtain ⟨b1,vo,b2,m,sp,hP,rfl,hu1⟩:=Gr.both hG hU
 have rg:Row w ⟨g,0,none⟩ [.map (some b1),vo,.map (some b2)]:=Row.of_at hP.at_
 have hq1:=hP.ents
 have hl1:=Gr.lt hG0
 refine tQ rfl ?_
 unfold mQ
 refine oy ?_
 repeat' (first|refine go1 ?_|refine zg λ_ _=>?_|refine zi λ_ _=>?_|refine zM rfl (fun h=>?_) (fun h=>?_)|refine zD rfl rfl (fun b3 wp xp a3 (r3:Row wp ⟨b3,0,none⟩ [.string id]) hp0=>?_)|refine sP (d:=some 17) (KE:=sK) (F:=bF) (M:=dQ g b1 b2 vo) (k:=id) rfl rfl (by exact fx) rfl rfl (fun y cs hy hr=>?_) (fun hno=>?_)|(refine zH (d:=some 5) (fun b9 w9 x9 a9 hb9=>?_);have s9:w.heap.size≤b9:=nTr (Ext.size (w:=w) (by exact fx)) hb9;have s39:wp.heap.size≤b9:=nTr (Ext.size (w:=wp) (by exact fx)) hb9)|(obtain ⟨iv,ov,rfl,q1,q2,q3⟩:=hr;have i1:=q1.one;have i2:=q2.one;refine bP (w0:=w) (vs:=bN y iv ov) (by exact fx) s9 (by focus (repeat (first|assumption|(apply At.ext;assumption)))) rfl rfl rfl rfl (by simp [bN,i1,i2];exact ⟨rfl,rfl,rfl,rfl,rfl⟩) (fun w10 x10 c10 a10 r10=>?_);have l3:=a3.lt;have a30:At w10 b3 (.cells [.string id].toArray T.string (0,0)):=At.chg c10 (At.ext (show Ext wp w9 by exact fx) a3) (by simp;omega);have r30:Row w10 ⟨b3,0,none⟩ [.string id]:=Row.of_at a30;have q10:SlR inR (dQ g b1 b2 vo) w10 iv y.tx.ins:=(q1.step (M':=b9::dQ g b1 b2 vo) x9 (by simp) (fun b hb=>by rcases List.mem_cons.1 hb with h|h;(subst h;exact .inr hb9);exact .inl h)).step c10 (by intro q hq;simp at hq;subst hq;exact .inl (by simp)) (fun _ h=>.inl (by simp [h]));clear c10 q1 q2 a9 x9 hb9 s39 xp a3 r3)|refine bP (w0:=w) (vs:=aBu) (by exact fx) s9 (by focus (repeat (first|assumption|(apply At.ext;assumption)))) rfl rfl rfl rfl rfl (fun w10 x10 c10 a10 r10=>?_))
 ·clear ‹Ext wp _›
  rename_i wB xB
  have xwB:Ext w wB:=x10.trans xB
  have a3B:=a30.ext xB
  have a9B:=a10.ext xB
  have agB:=hP.at_.ext xwB
  have mB:=hq1.ext xwB
  have uB:=hu1.ext xwB
  have pB:=hP.pts.ext xwB
  have oB:=hP.ord.ext xwB
  have qB:=q10.ext xB
  have sB:=xwB.size
  have nd:=hP.nd
  simp only [List.nodup_cons,List.mem_cons,not_or] at nd
  obtain ⟨⟨n1,n2,n3⟩,⟨n4,n5⟩,n6,n7⟩:=nd
  have l1:b1<w.heap.size:=hl1 _ (by simp)
  have l2:b2<w.heap.size:=hl1 _ (by simp)
  have lg:g<w.heap.size:=hl1 _ (by simp)
  have lo:∀b∈aP vo,b<w.heap.size:=fun b hb=>hl1 b (by simp [hb])
  have hym:y∈l∧y.id=id:=by
   rw [hP.inv.ent] at hy
   exact ⟨List.mem_of_find?_eq_some hy,by have:=List.find?_some hy;exact of_decide_eq_true this⟩
  have hins:=(fE (hG0.ok y hym.1).check).ins
  clear xB x10 a30 a10 r10 r30 q10 rg
  refine aOk (KE:=sK) (F:=bF) (M:=U++dQ g b1 b2 vo) (k:=id) rfl rfl uB (by simp) rfl rfl (fun w11 c11 m11=>?_)
  have ag11:=agB.chg c11 (by simp;omega)
  have a311:=a3B.chg c11 (by simp;omega)
  have a911:=a9B.chg c11 (by simp;omega)
  have p11:=pB.chg c11 (by simp;omega)
  have o11:=oB.chg c11 (fun b hb h=>by simp at h;subst h;exact n5 hb)
  have q11:=qB.step (M':=dQ g b1 b2 vo) c11 (fun b hb=>by simp at hb;subst hb;exact .inl (by simp)) (fun _ h=>.inl h)
  have r911:Row w11 ⟨b9,0,none⟩ (bN y iv ov):=Row.of_at a911
  have C11:Chg (dQ g b1 b2 vo) w w11:=(xwB.chg c11).mono (fun b hb=>by simp at hb;subst hb;exact .inl (by simp))
  have sB11:w.heap.size≤w11.heap.size:=nTr sB c11.size
  clear agB a3B a9B pB oB mB uB qB c11 xwB
  repeat' (first|refine go1 ?_|refine zg λ_ _=>?_|refine zi λ_ _=>?_|refine zL rfl (fun h=>?_) (fun h=>?_)|refine zG (E:=inR) (M:=dQ g b1 b2 vo) (l:=y.tx.ins) rfl (SlR.ext q11 (by exact fx)) ?_|(refine aQ (fun (i:Nat) w'=>Chg [b2] w11 w'∧i≤y.tx.ins.length∧dW ptK Value.string w' b2 (wS sp (y.tx.ins.take i))) (fun i=> [(0,.pointer (some ⟨g,0,none⟩)),(3,.pointer (some ⟨b3,0,none⟩)),(29,iv),(30,.int .i64 (y.tx.ins.length:Nat)),(31,.int .i64 i)]) (fun i=>y.tx.ins.length - i) 0 ⟨rfl,rfl,rfl,rfl,rfl,trivial⟩ ⟨(show Ext w11 _ by exact fx).mono (by simp),by simp,dW.ext (by exact fx) p11⟩ ?_;rintro i ρ w3 ⟨x3,hi,hmp⟩))
  ·have hi3:SlR inR (dQ g b1 b2 vo) w3 iv y.tx.ins:=q11.step x3 (fun b hb=>.inl (by simp at hb;simp [hb])) (fun _ h=>.inl h)
   have rg3:Row w3 ⟨g,0,none⟩ [.map (some b1),vo,.map (some b2)]:=Row.of_at (ag11.chg x3 (by simp;omega))
   clear r911
   repeat' (first|refine go1 ?_|refine zg λ_ _=>?_|refine zi λ_ _=>?_|(refine aL (d:=some 33) (E:=inR) (M:=dQ g b1 b2 vo) rfl rfl (n:=i) (l:=y.tx.ins) (SlR.ext hi3 (by exact fx)) rfl (by omega) (fun ad cs r4 he=>?_);obtain ⟨wv,rfl,hw,hp5,hp6⟩:=he;obtain ⟨bs1,cp1,rfl⟩:=hw.form;have hil:i<y.tx.ins.length:=(by omega))|refine zE (d':=8) (fun _=>rfl) rfl rfl rfl (fun b8 w8 x8 a8 (r8:Row w8 ⟨b8,0,none⟩ (gO y.tx.ins[i] (.slice bs1 y.tx.ins[i].wit.length cp1))) hb8=>?_)|(refine aLk (E:=ptK) (fv:=Value.string) (k:=y.tx.ins[i].p) rfl rfl (dW.ext (w:=w3) (by exact fx) hmp) rfl rfl (fun w5 c5 m5=>?_);have x35:Chg [b2] w3 w5:=Ext.chg (by exact fx) c5))
   exact ⟨i+1,⟨rfl,rfl,rfl,rfl,rfl,trivial⟩,⟨(x3.trans x35).mono (by simp),by omega,by rw [aLt hil];exact m5⟩,by omega⟩
  ·have ei:i=y.tx.ins.length:=by omega
   subst ei
   rw [tLe (Nat.le_refl _)] at hmp
   have ag3:=ag11.chg x3 (by simp;omega)
   have rg3:Row w3 ⟨g,0,none⟩ [.map (some b1),vo,.map (some b2)]:=Row.of_at ag3
   have a33:=a311.chg x3 (by simp;omega)
   have o3:=o11.chg x3 (fun b hb h=>by simp at h;subst h;exact n6 hb)
   have m3:=m11.step (M':=U++dQ g b1 b2 vo) x3 (by simp;omega) (fun b hb=>.inl (by simp at hb;simp [hb])) (fun _ h=>.inl h)
   have C3:Chg (dQ g b1 b2 vo) w w3:=(C11.trans x3).mono (fun b hb=>by simp at hb ⊢;grind)
   have s3:=x3.size
   clear q11 r911 ag11 a311 a911 p11 o11 m11 C11
   repeat' (first|refine go1 ?_|refine zg λ_ _=>?_|refine zi λ_ _=>?_|(refine zC rfl (aNt (g:=F.graph_Graph_Drop_1) (capl:= [.pointer (some ⟨b3,0,none⟩)]) (l:=l.map (fun x:Ent=>x.id)) (B:=B) _ (fun s=>decide (s=id)) aV2 (Own.ext (w:=w3) (by exact fx) o3) (by simp;omega) (fun W s hW=>aQj s W (At.chg hW (At.ext (w:=w3) (by exact fx) a33) (fun h=>by have:=lo _ h;omega)))) ?_;rintro v6 w6 ⟨o6,c6,hb6⟩;have c36:Chg (aP vo) w3 w6:=Ext.chg (by exact fx) c6;have hv1:v6.oneCell'=true:=(by obtain ⟨_,_,e⟩:=o6.sl.form;rw [e];rfl)))
   refine cN (b:=g) (o:=1) (v:=v6) rfl rfl hv1 (ag3.chg c36 n3) (by simp) (fun w14 c14 ag14=>?_)
   have ag14:At w14 g (.cells [.map (some b1),v6,.map (some b2)].toArray T.graph_Graph (0,0)):=ag14
   repeat (first|refine go1 ?_|refine zg λ_ _=>?_|refine zi λ_ _=>?_)
   have nb2:b2∉aP v6:=fun h=>n6 (hb6 _ h)
   have nb1:b1∉aP v6:=fun h=>n5 (hb6 _ h)
   have nbg:g∉aP v6:=fun h=>n3 (hb6 _ h)
   have hM':∀b∈dQ g b1 b2 v6,b∈dQ g b1 b2 vo:=fun b hb=>by
    simp only [List.mem_cons] at hb ⊢
    rcases hb with rfl|rfl|rfl|hb
    ·exact .inl rfl
    ·exact .inr (.inl rfl)
    ·exact .inr (.inr (.inl rfl))
    ·exact .inr (.inr (.inr (hb6 b hb)))
   have hMU:∀b∈U++dQ g b1 b2 v6,b∈U++dQ g b1 b2 vo:=fun b hb=>(List.mem_append.1 hb).elim (fun h=>List.mem_append_left _ h) (fun h=>List.mem_append_right _ (hM' b h))
   have m6:=m3.step (M':=U++dQ g b1 b2 v6) c36 n5 (fun b hb=>.inl (by simp [hb])) (fun b hb=>.inl (hMU b hb))
   have m14:=m6.step (M':=U++dQ g b1 b2 v6) c14 (by simp;omega) (fun b hb=>by simp at hb;subst hb;exact .inl (by simp)) (fun _ h=>.inl h)
   have p14:=(hmp.chg c36 n6).chg c14 (by simp;omega)
   have hC:Chg (dQ g b1 b2 vo) w w14:=((C3.trans c36).trans c14).mono (fun b hb=>by simp at hb ⊢;grind)
   obtain ⟨hym,rfl⟩:=hym
   obtain ⟨n,hnl,rfl⟩:=List.getElem_of_mem hym
   have hfi:bH l l[n].id=n:=by
    unfold bH
    exact idxOf_hit hnl (dTr rfl) (fun j hj=>dFa fun e=>by
     have:=kJ hG0.nodup (show j<l.length by omega) hnl (by rw [bJ (by omega),bJ hnl];exact e)
     omega)
   have ed:cA l l[n].id=(l.filter fun z=>!decide (z.id=l[n].id),0):=by
    rw [cA,if_neg (by rw [hfi];omega),hfi,Int.toNat_natCast,aJn hG0.nodup hnl rfl]
   rw [ed]
   have e6:(l.map (·.id)).filter (fun s=>!decide (s=l[n].id))=(l.filter fun z=>!decide (z.id=l[n].id)).map (·.id):=by
    rw [List.filter_map];rfl
   rw [e6] at o6
   have o14:=o6.chg c14 (fun b hb h=>by simp at h;subst h;exact nbg hb)
   have m15:=m14.step (M':=dQ g b1 b2 v6) (Chg.refl [] _) (by simp) (by simp) (fun b hb=>.inl (List.mem_append_right _ hb))
   refine aC rfl ⟨_,rfl,⟨b1,v6,b2,_,_,⟨ag14,m15,p14,o14,hP.inv.del hym,?_,hP.lo⟩,rfl⟩,hC,fun b hb=>.inl (hM' b hb),⟨b1,v6,b2,_,_,⟨ag14,m14,p14,o14.sl,hP.inv.del hym⟩⟩⟩
   ·simp only [List.nodup_cons,List.mem_cons,not_or]
    exact ⟨⟨n1,n2,nbg⟩,⟨n4,nb1⟩,nb2,vL v6⟩
 ·have hf:bH l id<0:=by
   rw [hP.inv.ent] at hno
   rcases Int.lt_or_le (bH l id) 0 with h1|h1
   ·exact h1
   ·have h2:=jI (p:=fun x:Ent=>decide (x.id=id)) (l:=l)
    have h3:l.any (fun x=>decide (x.id=id))=true:=by rw [←h2];unfold bH at h1;exact dTr h1
    obtain ⟨z,hz,h4⟩:=List.any_eq_true.1 h3
    exact absurd h4 (List.find?_eq_none.1 hno z hz)
  rw [cA,if_pos hf]
  exact aC rfl ⟨_,rfl,hG0.ext x10,x10.mono (by simp),fun b hb=>.inl hb,hU.ext x10⟩
theorem bJh {B g:Nat} {M U:List Nat} {l:List Ent} (id:ByteArray) (w:World) (hG:GrU w B g M U l) (hU:∀b∈U,b<w.heap.size) (hn:l.length≤1000):K.Spec Tryz.prog F.graph_Graph_Drop [.pointer (some ⟨g,0,none⟩),.string id] w fun r w'=>
  ∃M',r=.int .i64 (cA l id).2∧GrU w' B g M' U (cA l id).1∧Chg M w w'∧∀b∈M',b∈M∨w.heap.size≤b:=
 jH (bKt id w hG.gr hG.rd hn) fun _ _ ⟨M',h1,h2,h3,h4,h5⟩=>⟨M',h1,⟨h2,h5,fun b hb h=>(h4 b hb).elim (fun h6=>hG.dj b h6 h) (fun h6=>by have:=hU b h;omega)⟩,h3,h4⟩
end
end Go.Proofs.YtfebcajheojodaaGreatDoor
namespace Go.Proofs
section
open Go.Shelf
def Tryz.lays264_ren:Go.Shelf.Ren:=⟨fun|264=>171|n=>n,fun|53=>248|46=>280|n=>n,fun|n=>n⟩
theorem Tryz.lays264 : Go.Proofs.Lays.n264 Tryz.prog Tryz.lays264_ren := {
  mixed := by kernel_rfl
  f264 := Tryz.func171.trans (congrArg some (by kernel_rfl))
  t46 := Tryz.underlying280
  a46 := Tryz.isAgg280
  z46 := Tryz.sizeOf280
  v46 := Tryz.zeroValue280
  t53 := Tryz.underlying248
  a53 := Tryz.isAgg248
  z53 := Tryz.sizeOf248
  v53 := Tryz.zeroValue248 }
open Go.RowKit Go.Lib in
theorem Tryz.bits_Mul64 (x y:Nat) (hx:x<18446744073709551616) (hy:y<18446744073709551616) (w:World):
  Calls Tryz.prog 171 #[.int .u64 x,.int .u64 y] w fun e w'=>e=.returned (.tuple #[.int .u64 ((x*y / 18446744073709551616:Nat):Int),.int .u64 ((x*y%18446744073709551616:Nat):Int)])∧w'=w:=Any.bits_Mul64 Tryz.lays264 x y hx hy w
end
end Go.Proofs
namespace Go.Proofs.YtfebcajheojodaaGreatDoor
section
open Go Go.K
theorem bAg (x y:Nat) (hx:x<18446744073709551616) (hy:y<18446744073709551616) (w:World):K.Spec Tryz.prog F.math_bits_Mul64 [.int .u64 (x:Nat),.int .u64 (y:Nat)] w fun v w'=>v=.tuple #[.int .u64 ((x*y / 18446744073709551616:Nat):Int),.int .u64 ((x*y%18446744073709551616:Nat):Int)]∧Ext w w':=
 (Tryz.bits_Mul64 x y hx hy w).mono fun e w' ⟨he,hw⟩=>⟨_,he,rfl,by rw [hw];exact Ext.refl _⟩
attribute [local irreducible] aO aU bQ KOp.wp K.Spec u32 leS vnS str aV cU
def aJf:Enc Int:=⟨fun n=> [.int .i64 n],1,fun _=>rfl,by decide,by intro x v hv;simp at hv;subst hv;rfl⟩
theorem bG2 {n:Nat} (h:n≤2100000000000000):IntKind.u64.wrap (n:Int)=(n:Nat):=by
 have e:∀m:Int,IntKind.u64.wrap m=m%18446744073709551616:=fun _=>rfl
 rw [e];omega
theorem aPq (a b:Nat) (ha:a≤2100000000000000) (hb:b≤1000000) (w:World):K.Spec Tryz.prog F.kedgeref01_parts [.int .i64 (a:Nat),.int .i64 (b:Nat)] w fun r w'=>r=.tuple #[.int .i64 ((a*b / 1000000:Nat):Int),.int .i64 ((a*b%1000000:Nat):Int)]∧Ext w w':=by
 have h1:a%1000000*b≤1000000*1000000:=Nat.mul_le_mul (by omega) hb
 have h2:a / 1000000*b≤2100000000*1000000:=Nat.mul_le_mul (by omega) hb
 obtain ⟨e1,e2⟩:=bEw a b
 rw [←e1,←e2]
 refine aGo rfl ?_
 unfold tG
 refine oy ?_
 repeat' (first|refine aKu (d:=some 10) (n:=a) (m:=1000000) rfl rfl (by omega) (by omega) ?_|refine sX (d:=some 12) (n:=a) (m:=1000000) rfl rfl (by omega) ?_|refine aJ (d:=some 15) (.int .i64 ((a%1000000*b:Nat):Int)) rfl (congrArg (fun n=>some (Value.int .i64 n)) (IntWalk.i64_in _ (by omega))) ?_|refine aJ (d:=some 18) (.int .i64 ((a / 1000000*b:Nat):Int)) rfl (congrArg (fun n=>some (Value.int .i64 n)) (IntWalk.i64_in _ (by omega))) ?_|refine aKu (d:=some 20) (n:=a%1000000*b) (m:=1000000) rfl rfl (by omega) (by omega) ?_|refine sX (d:=some 23) (n:=a%1000000*b) (m:=1000000) rfl rfl (by omega) ?_|refine go1 ?_|refine zg λ_ _=>?_|refine zi λ_ _=>?_)
 exact aC rfl ⟨rfl,by exact fx⟩
theorem aQ6 (f s o i : Int) (w : World) : K.Spec Tryz.prog F.kedgeref01_Compare [.int .i64 f, .int .i64 s, .int .i64 o, .int .i64 i] w fun r w' => r = .int .i64 (aCp f s o i) ∧ Ext w w' := by
  by_cases hp : dZ f s = true ∧ dZ o i = true
  · obtain ⟨h1, h2⟩ := hp
    have g1 := h1
    have g2 := h2
    obtain ⟨F', S', rfl, rfl, b1, b2, b3⟩ := aBp h1
    obtain ⟨O', I', rfl, rfl, c1, c2, c3⟩ := aBp h2
    rw [bJj h1 h2, bBz]
    have q1 : bX (F' : Nat) = true := (bG _).2 (by omega)
    have q2 : bX (O' : Nat) = true := (bG _).2 (by omega)
    refine qR rfl ?_
    unfold kC
    refine oy ?_
    repeat' (first|refine zF (d := some 16) (v := .bool true) ((qG _).trans (by rw [q1])) ?_|refine zF (d := some 18) (v := .bool true) ((qG _).trans (by rw [q2])) ?_|refine go1 ?_|refine zg λ_ _=>?_|refine zi λ_ _=>?_|(refine zC (d := some 44) rfl (aPq F' I' (by omega) (by omega) _) ?_; rintro _ w3 ⟨rfl, x3⟩)|(refine zC (d := some 50) rfl (aPq O' S' (by omega) (by omega) _) ?_; rintro _ w4 ⟨rfl, x4⟩)|refine zJ rfl (fun h => ?_) (fun h => ?_)|refine zL rfl (fun h => ?_) (fun h => ?_))
    all_goals first
      | (exfalso; omega)
      | (refine aC rfl ⟨congrArg (Value.int .i64) ?_, by exact fx⟩
         split <;> (try split) <;> omega)
  · have e : aCp f s o i = 0 := bLk (by cases h1 : dZ f s <;> cases h2 : dZ o i <;> simp_all)
    rw [e]
    have hp2 : ¬ ((bX f = true ∧ 1 ≤ s ∧ s ≤ 1000000) ∧ bX o = true ∧ 1 ≤ i ∧ i ≤ 1000000) := by
      intro h; apply hp; rw [wH, wH, ← bG, ← bG]; exact h
    refine qR rfl ?_
    unfold kC
    refine oy ?_
    repeat' (first|refine go1 ?_|refine zg λ_ _=>?_|refine zi λ_ _=>?_|refine zJ rfl (fun h => ?_) (fun h => ?_)|refine zK rfl (fun h => ?_) (fun h => ?_)|refine zL rfl (fun h => ?_) (fun h => ?_))
    all_goals first
      | exact aC rfl ⟨rfl, by exact fx⟩
      | exact absurd ⟨⟨by simp_all, by omega, by omega⟩, by simp_all, by omega, by omega⟩ hp2
end
section
open Go Go.K
attribute [local irreducible] aO aU bQ KOp.wp K.Spec u32 leS vnS str aV cU cD idT aR aG aX idN bD cF bT bH cA cO aZ bA aM iC dT aCp
theorem kO (l:List Ent) (m:List Bool):(aM l m).length≤l.length:=by
 have:=(jJ l m).length_le
 simpa using this
end
section
open Go Go.K
section
variable {P:Program} {d:Option Tmp} {r:KR} {K:Env→World→Prop} {ρ:Env} {w:World}
theorem rH {x y:Operand} {a b:Int} (hx:ev ρ x=.int .i64 a) (hy:ev ρ y=.int .i64 b) (k:aO P r K (put ρ d (.int .i64 (max a b))) w):aO P (.cons ⟨d,.minmax true x [y],none⟩ r) K ρ w:=
 dK rfl (by
  have e:(if b>a then b else a)=max a b:=by split<;>omega
  simp only [KOp.fix,List.foldl_cons,List.foldl_nil,hx,hy,Option.bind_some,aAo,if_true,e]) k
end
theorem Own.blk_lt {α:Type} {E:Enc α} {t:TypeId} {B:Nat} {w:World} {v:Value} {l:List α} (h:Own E t B w v l):∀b∈aP v,b<w.heap.size:=by
 rcases h with ⟨rfl,rfl⟩|⟨b,cap,junk,rfl,hB,hat,hl⟩<;>simp [aP]
 exact hat.lt
attribute [local irreducible] aO aU bQ KOp.wp K.Spec u32 leS vnS str aV cU cD idT aR aG aX idN bD cF bT bH cA cO aZ bA aM iC dT aCp dC bU
end
section
open Go Go.K
attribute [local irreducible] aO aU bQ KOp.wp K.Spec u32 leS vnS str aV cU cD idT aR aG aX idN
def s9:ByteArray:=⟨#[1,1,0,0,0,0,0,0,0]⟩
end
end Go.Proofs.YtfebcajheojodaaGreatDoor
namespace Go.K
section
open Go
end
section
open Go
end
section
open Go
end
section
open Go
def sc9:List UInt8:= [1,1,0,0,0,0,0,0,0]
def bN5 (L:List UInt8) (m:Nat):Tx:=⟨2, [⟨⟨str L,0⟩,4294967293, []⟩], [⟨1000,str sc9⟩],(m:Nat)⟩
def idL (n:Nat):List UInt8:=(List.range 32).map fun i=>UInt8.ofNat (n / 2^(i%8))^^^UInt8.ofNat i
def r90:List UInt8:= [224,231,132,22,155,147,84,141,189,81,171,96,167,26,13,249,123,4,161,235,106,182,26,208,68,46,184,58,28,38,199,133]
end
section
open Go
def eB (f:Int):Ent:=⟨bN5 (idL 9) 0,str r90,f,69⟩
end
end Go.K
namespace Go.Proofs.YtfebcajheojodaaGreatDoor
section
open Go Go.K
attribute [local irreducible] aO aU bQ KOp.wp K.Spec u32 leS vnS str aV cU cD idT aR aG aX idN bD cF bT bH cA cO bN5 idL
attribute [local irreducible] eB
end
section
open Go Go.K
attribute [local irreducible] aO aU bQ KOp.wp K.Spec u32 leS vnS str aV cU cD idT aR aG aX idN bD cF bT bH cA cO aZ bA aM iC dT
theorem bI8 (p q:Pt):(decide (p.s=q.s)&&(decide (p.i=q.i)&&true))=decide (p=q):=by
 cases p;cases q
 simp only [Bool.and_true,Pt.mk.injEq]
 exact Bool.decide_and _ _ |>.symm
theorem bG6:cM Tryz.prog F.replace_Conflicts_1_1=true:=by kernel_rfl
theorem bHa:cM Tryz.prog F.replace_Conflicts_1=true:=by kernel_rfl
theorem bBj (a b:TIn) (av bv:Value) {ba:Nat} (w:World) (hbv:bv.oneCell'=true) (ha:Row w ⟨ba,0,none⟩ (gO a av)):K.Spec Tryz.prog F.replace_Conflicts_1_1 [.agg (gO b bv).toArray,.pointer (some ⟨ba,0,none⟩)] w fun r w'=>r=.bool (decide (a.p=b.p))∧Ext w w':=by
 rw [←bI8]
 refine xH rfl ?_
 unfold mW
 refine oy ?_
 repeat' (first|refine go1 ?_|refine zg λ_ _=>?_|refine zi λ_ _=>?_|refine zD rfl rfl (fun bp wp xp ap (rp:Row wp ⟨bp,0,none⟩ (gO b bv)) hp0=>?_))
 exact aC rfl ⟨rfl,by exact fx⟩
theorem bAd {M:List Nat} (a:TIn) (av iv ov:Value) {bt:Nat} {t:Tx} (w:World) (hav:av.oneCell'=true) (ht:Row w ⟨bt,0,none⟩ (aK t iv ov)) (hi:SlR inR M w iv t.ins) (hn:t.ins.length≤1000):K.Spec Tryz.prog F.replace_Conflicts_1 [.agg (gO a av).toArray,.pointer (some ⟨bt,0,none⟩)] w fun r w'=>r=.bool (t.ins.any fun b=>decide (a.p=b.p))∧Ext w w':=by
 refine aBl rfl ?_
 unfold pJ
 refine oy ?_
 repeat' (first|refine go1 ?_|refine zg λ_ _=>?_|refine zi λ_ _=>?_|refine zD rfl rfl (fun bp wp xp ap (rp:Row wp ⟨bp,0,none⟩ (gO a av)) hp0=>?_)|(refine zC rfl (pQ (l:=t.ins) (M:=M) (g:=F.replace_Conflicts_1_1) (capl:= [_]) (p:=fun b=>decide (a.p=b.p)) _ bG6 (SlR.ext hi (by exact fx)) (by omega) ?_) ?_;rotate_left;rintro _ w2 ⟨rfl,x2⟩))
 ·exact aC rfl ⟨rfl,by exact fx⟩
 ·intro x _ w' cs x2 hc
  obtain ⟨bv,rfl,hw,_⟩:=hc
  exact bBj a x av bv w' hw.one (rp.ext x2)
theorem aOu {l:List Ent} {t:Tx} {i:Nat} (h:i<l.length):aM (l.take (i+1)) ((bC l t).take (i+1))=aM (l.take i) ((bC l t).take i)++if cE t l[i]=true then [l[i].id] else []:=by
 have e:(bC l t)[i]'(by rw [←kR];exact h)=cE t l[i]:=by simp [bC]
 rw [aAk kR h,e]
set_option maxHeartbeats 2000000 in
theorem gH {g:Nat} {M N:List Nat} {l:List Ent} {cs:List Value} {t:Tx} (w:World) (hG:GrR w g M l) (hM:∀b∈M,b<w.heap.size) (ht:txR.rel N w cs t) (hs:t.ins.length≤1000) (hl:l.length≤1000):
  K.Spec Tryz.prog F.replace_Conflicts [.pointer (some ⟨g,0,none⟩),.agg cs.toArray] w fun r w'=>Own bO T.string w.heap.size w' r (aM l (bC l t))∧Ext w w':=by
 have hsm:∀x∈l,x.tx.Sm:=fun x hx=>fE (hG.ok x hx).check
 have id0:aM (l.take 0) ((bC l t).take 0)= []:=by rw [List.take_zero,List.take_zero];unfold aM;rfl
 obtain ⟨iv,ov,rfl,hi,ho,hv⟩:=ht
 refine aEv rfl ?_
 unfold rQ
 refine oy ?_
 repeat' (first|refine go1 ?_|refine zg λ_ _=>?_|refine zi λ_ _=>?_|refine zD (d:=some 3) rfl rfl (fun bt wt xt bt' (rt:Row wt ⟨bt,0,none⟩ (aK t iv ov)) ht0=>?_)|(refine zC (d:=some 9) rfl (aJd (M:=M) (l:=l) _ (hG.ext (by exact fx)) (fun b hb=>nLt (hM b hb) (Ext.size (by exact fx))) (by omega)) ?_;rintro va w2 ⟨oa,x2⟩;have sa:SlR bF [] w2 va l:=(oa.sub (M':= []) (by simp)).sl (by simp);have x02:Unit→Ext w w2:=(fun _=>by exact fx);have s02:=(x02 ()).size;have i2:=hi.ext (x02 ());have r2:=rt.ext x2)|refine zG (d:=some 10) (E:=bF) (M:= []) (l:=l) rfl (SlR.ext sa (by exact fx)) ?_|refine zL rfl (fun h=>?_) (fun h=>?_)|(refine aQ (fun (p:Nat × Value) w'=>Ext w2 w'∧p.1≤l.length∧Own bO T.string w2.heap.size w' p.2 (aM (l.take p.1) ((bC l t).take p.1))) (fun p=> [(3,.pointer (some ⟨bt,0,none⟩)),(5,p.2),(9,va),(10,.int .i64 (l.length:Nat)),(11,.int .i64 p.1)]) (fun p=>l.length - p.1) (0,.slice none 0 0) ⟨rfl,rfl,rfl,rfl,rfl,trivial⟩ ⟨Ext.refl _,by simp,by rw [id0];exact Own.nil _ _ _⟩ ?_;rintro ⟨i,v5⟩ ρ w3 ⟨x3,hi3,o3⟩;simp only at hi3 o3;dsimp only))
 ·have hil:i<l.length:=by omega
  have hxs:=(hsm _ (gMe hil)).ins
  have s3:=x3.size
  refine aL (d:=some 13) (E:=bF) (M:= []) rfl rfl (n:=i) (l:=l) (SlR.ext sa (by exact fx)) rfl hil (fun ad cs r4 he=>?_)
  obtain ⟨iv2,ov2,rfl,q1,q2,q3⟩:=he
  have i1:=q1.one
  have j2:=q2.one
  have r3:=r2.ext x3
  have i3:=i2.ext x3
  have hle:=iX (l.take i) ((bC l t).take i)
  have htl:(l.take i).length=i:=by rw [List.length_take];omega
  have x23:Unit→Ext w2 w3:=fun _=>x3
  clear x3
  have tl:∀w1,Ext w3 w1→rF F.replace_Conflicts_1 [.pointer (some ⟨bt,0,none⟩)] inR (fun cs=>.agg cs.toArray) [] w1 l[i].tx.ins (fun a=>t.ins.any fun b=>decide (a.p=b.p)):=fun w1 x1 x _ w' cs x2 hc=>by
   obtain ⟨bv,rfl,hw,_⟩:=hc
   exact bAd (M:=N) x bv iv ov w' hw.one (r3.ext (x1.trans x2)) (i3.ext (x1.trans x2)) hs
  repeat' (first|refine go1 ?_|refine zg λ_ _=>?_|refine zi λ_ _=>?_|refine zE (d':=7) (fun _=>rfl) rfl rfl (by simp [bN,i1,j2];exact ⟨rfl,rfl,rfl,rfl,rfl⟩) (fun b6 w6 x6 a6 (r6:Row w6 ⟨b6,0,none⟩ (bN l[i] iv2 ov2)) hb6=>?_)|(refine zC (d:=some 19) rfl (pQ (l:=l[i].tx.ins) (M:= []) (g:=F.replace_Conflicts_1) (capl:= [_]) (p:=fun a=>t.ins.any fun b=>decide (a.p=b.p)) _ bHa (SlR.ext q1 (by exact fx)) (by omega) (tl _ (by exact fx))) ?_;rintro _ w7 ⟨rfl,x7⟩)|refine zM rfl (fun h=>?_) (fun h=>?_)|refine zI (d:=some 23) (cs:= [.string l[i].id]) rfl (fun b9 w9 x9 a9 hb9=>?_))
  ·have x39:Ext w3 w9:=by exact fx
   have s39:=x39.size
   refine pX (d:=some 24) (E:=bO) (v:=v5) (l2:= [l[i].id]) rfl (o3.ext x39) (by omega) rfl rfl (eS a9 rfl) rfl rfl (by simp only [List.length_cons,List.length_nil];omega) (fun v10 w10 o10 _ c10 hb10=>?_)
   have hh:cE t l[i]=true:=h
   repeat' (first|refine go1 ?_|refine zg λ_ _=>?_|refine zi λ_ _=>?_)
   exact ⟨(i+1,v10),⟨rfl,rfl,rfl,rfl,rfl,trivial⟩,⟨(((x23 ()).trans x39).chg c10).mono (fun b hb=>.inr (o3.base b hb)),by simp only;omega,by simp only;rw [aOu hil,if_pos hh];exact o10⟩,by simp only;omega⟩
  ·have hh:¬cE t l[i]=true:=by
    have h2:cE t l[i]=false:=h
    rw [h2];simp
   exact ⟨(i+1,v5),⟨rfl,rfl,rfl,rfl,rfl,trivial⟩,⟨Ext.trans (x23 ()) (by exact fx),by simp only;omega,by simp only;rw [aOu hil,if_neg hh,List.append_nil];exact o3.ext (by exact fx)⟩,by simp only;omega⟩
 ·rw [tLe (by omega),tLe (by rw [←kR];omega)] at o3
  exact aC rfl ⟨o3.lower s02,Ext.trans (x02 ()) (by exact fx)⟩
end
end Go.Proofs.YtfebcajheojodaaGreatDoor
namespace Go.K
section
open Go Go.Proofs.YtfebcajheojodaaGreatDoor
def pD (P:List ByteArray) (s:ByteArray):Nat:=(P.filter fun x=>decide (x=s)).length
theorem bE6 (P:List ByteArray) (x s:ByteArray):pD (P++ [x]) s=pD P s+if x=s then 1 else 0:=by
 unfold pD
 rw [List.filter_append,List.length_append]
 by_cases h:x=s
 ·rw [List.filter_cons_of_pos (by simpa using h),if_pos h];rfl
 ·rw [List.filter_cons_of_neg (by simpa using h),if_neg h];rfl
theorem bI1 {P:List ByteArray} {s:ByteArray}:0<pD P s↔s∈P:=by
 unfold pD
 rw [List.length_pos_iff_exists_mem]
 constructor
 ·rintro ⟨x,hx⟩
  obtain ⟨h1,h2⟩:=List.mem_filter.1 hx
  rw [←of_decide_eq_true h2];exact h1
 ·exact fun h=>⟨s,List.mem_filter.2 ⟨h,dTr rfl⟩⟩
theorem bKy (P:List ByteArray) (s:ByteArray):pD P s≤P.length:=List.length_filter_le _ _
def Cnt (met:List (ByteArray × Nat)) (P:List ByteArray):Prop:=∀s,aS met s=if pD P s=0 then none else some (pD P s)
theorem Cnt.nil:Cnt [] []:=fun s=>rfl
theorem Cnt.add {met:List (ByteArray × Nat)} {P:List ByteArray} (h:Cnt met P) (s:ByteArray):Cnt (fN met s (pD P s+1)) (P++ [s]):=fun k=>by
 rw [dB,bE6]
 by_cases e:s=k
 ·subst e
  rw [if_pos rfl,if_pos rfl,if_neg (by omega)]
 ·rw [if_neg e,if_neg e,h k,Nat.add_zero]
theorem Cnt.found {met:List (ByteArray × Nat)} {P:List ByteArray} (h:Cnt met P) {s:ByteArray} {c:Nat} (hc:aS met s=some c):pD P s=c∧0<c:=by
 have:=h s
 rw [hc] at this
 split at this
 ·cases this
 ·injection this with e;omega
theorem Cnt.none_ {met:List (ByteArray × Nat)} {P:List ByteArray} (h:Cnt met P) {s:ByteArray} (hc:aS met s=none):pD P s=0:=by
 have:=h s
 rw [hc] at this
 split at this
 ·assumption
 ·cases this
def lH (l:List Ent) (ids:List ByteArray):List ByteArray:=ids.flatMap fun s=>aM l (bA l s)
theorem bDs {l:List Ent} {ids:List ByteArray} {i:Nat} (h:i<ids.length):lH l (ids.take (i+1))=lH l (ids.take i)++aM l (bA l ids[i]):=by
 unfold lH
 rw [List.take_succ_eq_append_getElem h,List.flatMap_append,List.flatMap_singleton]
theorem aXq {l:List Ent}:∀(ids:List ByteArray),(lH l ids).length≤l.length*ids.length
 | []=>by simp [lH]
 |s::ids=>by
  have ih:=aXq (l:=l) ids
  have h:=(jJ l (bA l s)).length_le
  rw [List.length_map] at h
  unfold lH at ih ⊢
  rw [List.flatMap_cons,List.length_append,List.length_cons,Nat.mul_add]
  omega
theorem bOt {l:List Ent} {t:Tx} (hn:(l.map (·.id)).Nodup) {i:Nat} (hi:i<l.length):((evL l t)[i]'(by rw [←jV];exact hi))=true↔0<pD (lH l (aM l (bC l t))) l[i].id:=by
 rw [bI1]
 have h1:=aNh (l:=l) (t:=t) hi (Nat.le_refl _)
 have e:(evI l t l.length)[i]? =some ((evL l t)[i]'(by rw [←jV];exact hi)):=List.getElem?_eq_getElem _
 rw [e] at h1
 simp only [Option.some.injEq] at h1
 rw [h1]
 unfold lH
 rw [List.mem_flatMap]
 constructor
 ·rintro ⟨j,hj,_,h2,h3⟩
  exact ⟨l[j].id,qX.2 ⟨l[j],gMe hj,h2,rfl⟩,(sL hn hi).2 h3⟩
 ·rintro ⟨s,hs,h2⟩
  obtain ⟨x,hx,h3,rfl⟩:=qX.1 hs
  obtain ⟨j,hj,rfl⟩:=List.getElem_of_mem hx
  exact ⟨j,hj,hj,h3,(sL hn hi).1 h2⟩
theorem aQl {l:List Ent} {t:Tx} {i:Nat} (h:i<l.length):aM (l.take (i+1)) ((evL l t).take (i+1))=aM (l.take i) ((evL l t).take i)++if (evL l t)[i]'(by rw [←jV];exact h)=true then [l[i].id] else []:=aAk jV h
end
end Go.K
namespace Go.Proofs.YtfebcajheojodaaGreatDoor
section
open Go Go.K
attribute [local irreducible] aO aU bQ KOp.wp K.Spec u32 leS vnS str aV cU cD idT aR aG aX idN bD cF bT bH cA cO aZ bA aM iC dT pD lH bC evL
set_option maxHeartbeats 4000000 in
theorem kM {g:Nat} {M N:List Nat} {l:List Ent} {cs:List Value} {t:Tx} (w:World) (hG:GrR w g M l) (hM:∀b∈M,b<w.heap.size) (ht:txR.rel N w cs t) (hs:t.ins.length≤1000) (hl:l.length≤1000):
  K.Spec Tryz.prog F.replace_Evicted [.pointer (some ⟨g,0,none⟩),.agg cs.toArray] w fun r w'=>Own bO T.string w.heap.size w' r (aM l (evL l t))∧Ext w w':=by
 have hnd:=hG.nodup
 have ht0:=ht
 obtain ⟨iv,ov,rfl,hi,ho,hv⟩:=ht
 have id0:aM (l.take 0) ((evL l t).take 0)= []:=by rw [List.take_zero,List.take_zero];unfold aM;rfl
 obtain ⟨ids,hids⟩:∃ids,ids=aM l (bC l t):=⟨_,rfl⟩
 have hil:ids.length≤l.length:=by rw [hids];exact kO _ _
 have m0:lH l (ids.take 0)= []:=by rw [List.take_zero];unfold lH;rfl
 refine aIf rfl ?_
 unfold vJ
 refine oy ?_
 repeat' (first|refine go1 ?_|refine zg λ_ _=>?_|refine zi λ_ _=>?_|refine zD (d:=some 3) rfl rfl (fun bt wt xt bt' (rt:Row wt ⟨bt,0,none⟩ (aK t iv ov)) hbt0=>?_)|(refine kI (d:=some 13) (E:=sK) (fv:=fun n:Nat=>Value.int .i64 (n:Nat)) (fun bm w1 x1 m1 hb1=>?_);have lm:=m1.lt)|(refine zC (d:=some 16) rfl (gH (M:=M) (N:=N) (l:=l) (cs:=aK t iv ov) (t:=t) _ (hG.ext (by exact fx)) (fun b hb=>nLt (hM b hb) (Ext.size (by exact fx))) (R.ext ht0 (by exact fx)) hs hl) ?_;rw [←hids];rintro vc w2 ⟨oc,x2⟩)|refine bY (d:=some 17) (E:=bO) (l:=ids) rfl oc.sl ?_)
 have x02:Ext w w2:=(xt.trans x1).trans x2
 have m2:=m1.ext x2
 have bcb:=oc.base
 have hc2:∀b∈aP vc,b∉ [bm]:=fun b hb h=>by have:=bcb b hb;simp at h;omega
 have hbm:w.heap.size≤bm:=by have:=xt.size;omega
 have lm2:bm<w2.heap.size:=nLt lm x2.size
 clear xt x1 x2 m1
 repeat' (first|refine go1 ?_|refine zg λ_ _=>?_|refine zi λ_ _=>?_|refine zL rfl (fun h=>?_) (fun h=>?_)|(refine aQ (fun (p:Nat × List (ByteArray × Nat)) w'=>Ext w w'∧w2.heap.size≤w'.heap.size∧p.1≤ids.length∧dW sK (fun n:Nat=>Value.int .i64 (n:Nat)) w' bm p.2∧Cnt p.2 (lH l (ids.take p.1))∧Own bO T.string w1.heap.size w' vc ids) (fun p=> [(0,.pointer (some ⟨g,0,none⟩)),(5,.map (some bm)),(16,vc),(17,.int .i64 (ids.length:Nat)),(18,.int .i64 p.1)]) (fun p=>ids.length - p.1) (0, []) ⟨rfl,rfl,rfl,rfl,rfl,trivial⟩ ⟨x02,Nat.le_refl _,by simp,m2,by rw [m0];exact Cnt.nil,oc⟩ ?_;clear x02 oc m2;rintro ⟨i,met⟩ ρ w3 ⟨x3,s3,hi3,m3,c3,o3⟩;simp only at hi3 m3 c3;dsimp only))
 ·have hii:i<ids.length:=by omega
  have hbl:=kO l (bA l ids[i])
  have hml:=aXq (l:=l) (ids.take i)
  have hml2:l.length*(ids.take i).length≤1000*1000:=Nat.mul_le_mul hl (by rw [List.length_take];omega)
  refine aT (d:=some 20) (E:=bO) rfl rfl (n:=i) (l:=ids) o3.sl rfl hii (fun ad r5=>?_)
  have r5:Row w3 ad [Value.string ids[i]]:=r5
  repeat' (first|refine go1 ?_|refine zg λ_ _=>?_|refine zi λ_ _=>?_|(refine zC (d:=some 24) rfl (aL0 (M:=M) (l:=l) ids[i] _ (hG.ext (by exact fx)) (fun b hb=>nLt (hM b hb) (Ext.size (by exact fx))) hl) ?_;rintro vb w4 ⟨ob,x4⟩)|refine bY (d:=some 25) (E:=bO) (l:=aM l (bA l ids[i])) rfl ob.sl ?_)
  obtain ⟨bs,hbs⟩:∃bs,bs=aM l (bA l ids[i]):=⟨_,rfl⟩
  rw [←hbs] at ob hbl ⊢
  have x04:Ext w w4:=x3.trans x4
  have s4:=x4.size
  have bbb:=ob.base
  have hb2:∀b∈aP vb,b∉ [bm]:=fun b hb h=>by have:=bbb b hb;simp at h;omega
  have t0:lH l (ids.take i)++bs.take 0=lH l (ids.take i):=by rw [List.take_zero,List.append_nil]
  have m4:=m3.ext x4
  have o4:=o3.ext x4
  clear x3 x4 m3 o3 r5
  repeat' (first|refine go1 ?_|refine zg λ_ _=>?_|refine zi λ_ _=>?_|refine zL rfl (fun h=>?_) (fun h=>?_)|(refine aQ (fun (p:Nat × List (ByteArray × Nat)) w'=>Ext w w'∧w2.heap.size≤w'.heap.size∧p.1≤bs.length∧dW sK (fun n:Nat=>Value.int .i64 (n:Nat)) w' bm p.2∧Cnt p.2 (lH l (ids.take i)++bs.take p.1)∧Own bO T.string w1.heap.size w' vc ids∧Own bO T.string w3.heap.size w' vb bs) (fun p=> [(0,.pointer (some ⟨g,0,none⟩)),(5,.map (some bm)),(16,vc),(17,.int .i64 (ids.length:Nat)),(18,.int .i64 i),(24,vb),(25,.int .i64 (bs.length:Nat)),(26,.int .i64 p.1)]) (fun p=>bs.length - p.1) (0,met) ⟨rfl,rfl,rfl,rfl,rfl,rfl,rfl,rfl,trivial⟩ ⟨x04,by omega,by simp,m4,by rw [t0];exact c3,o4,ob⟩ ?_;clear x04 m4 o4 ob;rintro ⟨j,met2⟩ ρ2 w5 ⟨x5,s5,hj5,m5,c5,o5,ob5⟩;simp only at hj5 m5 c5;dsimp only))
  ·have hjl:j<bs.length:=by omega
   refine aT (d:=some 28) (E:=bO) rfl rfl (n:=j) (l:=bs) ob5.sl rfl hjl (fun ad r6=>?_)
   have r6:Row w5 ad [Value.string bs[j]]:=r6
   have hadd:=c5.add bs[j]
   have htk:lH l (ids.take i)++bs.take (j+1)=lH l (ids.take i)++bs.take j++ [bs[j]]:=by rw [List.take_succ_eq_append_getElem hjl,List.append_assoc]
   have hcl:=bKy (lH l (ids.take i)++bs.take j) bs[j]
   rw [List.length_append,List.length_take] at hcl
   cases hag:aS met2 bs[j] with
   |none=>
    have hcz:=c5.none_ hag
    rw [hcz] at hadd
    repeat' (first|refine go1 ?_|refine zg λ_ _=>?_|refine zi λ_ _=>?_|refine eR (d:=some 32) (E:=sK) (fv:=fun n:Nat=>Value.int .i64 (n:Nat)) (k:=bs[j]) rfl rfl m5 rfl rfl (fun c hcc=>by rw [hag] at hcc;cases hcc) (fun hcn=>?_)|refine fA (d:=none) (E:=sK) (fv:=fun n:Nat=>Value.int .i64 (n:Nat)) (k:=bs[j]) (v:=1) rfl rfl rfl m5 rfl rfl (fun w6 c6 m6=>?_))
    refine ⟨(j+1,_),⟨rfl,rfl,rfl,rfl,rfl,rfl,rfl,rfl,trivial⟩,⟨(x5.chg c6).mono (by intro b hb;simp at hb;subst hb;exact .inr hbm),by have:=c6.size;omega,by simp only;omega,m6,by rw [htk];exact hadd,o5.chg c6 hc2,ob5.chg c6 hb2⟩,by simp only;omega⟩
   |some c=>
    have hcz:=(c5.found hag).1
    rw [hcz] at hadd hcl
    repeat' (first|refine go1 ?_|refine zg λ_ _=>?_|refine zi λ_ _=>?_|(refine eR (d:=some 32) (E:=sK) (fv:=fun n:Nat=>Value.int .i64 (n:Nat)) (k:=bs[j]) rfl rfl m5 rfl rfl (fun c' hcc=>?_) (fun hcn=>by rw [hag] at hcn;cases hcn);rw [hag] at hcc;injection hcc with hcc;subst hcc)|refine fA (d:=none) (E:=sK) (fv:=fun n:Nat=>Value.int .i64 (n:Nat)) (k:=bs[j]) (v:=c+1) rfl rfl rfl m5 rfl rfl (fun w6 c6 m6=>?_))
    refine ⟨(j+1,_),⟨rfl,rfl,rfl,rfl,rfl,rfl,rfl,rfl,trivial⟩,⟨(x5.chg c6).mono (by intro b hb;simp at hb;subst hb;exact .inr hbm),by have:=c6.size;omega,by simp only;omega,m6,by rw [htk];exact hadd,o5.chg c6 hc2,ob5.chg c6 hb2⟩,by simp only;omega⟩
  ·rw [tLe (l:=bs) (by omega)] at c5
   exact ⟨(i+1,met2),⟨rfl,rfl,rfl,rfl,rfl,trivial⟩,⟨x5,s5,by simp only;omega,m5,by rw [bDs hii,←hbs];exact c5,o5⟩,by simp only;omega⟩
 ·rw [tLe (l:=ids) (by omega)] at c3
  have s03:Unit→Ext w w3:=fun _=>x3
  repeat' (first|refine go1 ?_|refine zg λ_ _=>?_|refine zi λ_ _=>?_|(refine zC (d:=some 37) rfl (aJd (M:=M) (l:=l) _ (hG.ext x3) (fun b hb=>nLt (hM b hb) x3.size) (by omega)) ?_;rintro va w4 ⟨oa,x4⟩;have sa:SlR bF [] w4 va l:=(oa.sub (M':= []) (by simp)).sl (by simp);have m4:=m3.ext x4;have x34:=x3.trans x4;clear x3)|refine zG (d:=some 38) (E:=bF) (M:= []) (l:=l) rfl (SlR.ext sa (by exact fx)) ?_|refine zL rfl (fun h=>?_) (fun h=>?_)|(refine aQ (fun (p:Nat × Value) w'=>Ext w4 w'∧p.1≤l.length∧Own bO T.string w4.heap.size w' p.2 (aM (l.take p.1) ((evL l t).take p.1))) (fun p=> [(5,.map (some bm)),(10,p.2),(37,va),(38,.int .i64 (l.length:Nat)),(39,.int .i64 p.1)]) (fun p=>l.length - p.1) (0,.slice none 0 0) ⟨rfl,rfl,rfl,rfl,rfl,trivial⟩ ⟨Ext.refl _,by simp,by rw [id0];exact Own.nil _ _ _⟩ ?_;rintro ⟨i,v5⟩ ρ w5 ⟨x5,hi5,o5⟩;simp only at hi5 o5;dsimp only))
  ·have hil2:i<l.length:=by omega
   have hle:=iX (l.take i) ((evL l t).take i)
   have htl:(l.take i).length=i:=by rw [List.length_take];omega
   have hev:=bOt (t:=t) hnd hil2
   rw [←hids] at hev
   have s5:=x5.size
   refine aL (d:=some 41) (E:=bF) (M:= []) rfl rfl (n:=i) (l:=l) (SlR.ext sa (by exact fx)) rfl hil2 (fun ad cs r4 he=>?_)
   obtain ⟨iv2,ov2,rfl,q1,q2,q3⟩:=he
   have i1:=q1.one
   have j2:=q2.one
   repeat' (first|refine go1 ?_|refine zg λ_ _=>?_|refine zi λ_ _=>?_|refine zE (d':=12) (fun _=>rfl) rfl rfl (by simp [bN,i1,j2];exact ⟨rfl,rfl,rfl,rfl,rfl⟩) (fun b6 w6 x6 a6 (r6:Row w6 ⟨b6,0,none⟩ (bN l[i] iv2 ov2)) hb6=>?_)|refine eR (d:=some 46) (E:=sK) (fv:=fun n:Nat=>Value.int .i64 (n:Nat)) (k:=l[i].id) rfl rfl (dW.ext (by exact fx) m4) rfl rfl (fun c hcc=>?_) (fun hcn=>?_)|(have hcz:=c3.found hcc;rw [hcz.1] at hev;refine zL (p:=((c:Nat):Int)>0) rfl (fun h9=>?_) (fun h9=>absurd h9 (by omega)))|(have hcz:=c3.none_ hcn;rw [hcz] at hev;refine zL (p:=(0:Int)>0) rfl (fun h9=>absurd h9 (by omega)) (fun h9=>?_))|refine zI (d:=some 51) (cs:= [.string l[i].id]) rfl (fun b9 w9 x9 a9 hb9=>?_))
   ·have x59:Ext w5 w9:=by exact fx
    have s59:=x59.size
    have hh:(evL l t)[i]'(by rw [←jV];exact hil2)=true:=hev.2 (by omega)
    refine pX (d:=some 52) (E:=bO) (v:=v5) (l2:= [l[i].id]) rfl (o5.ext x59) (by omega) rfl rfl (eS a9 rfl) rfl rfl (by simp only [List.length_cons,List.length_nil];omega) (fun v10 w10 o10 _ c10 hb10=>?_)
    repeat' (first|refine go1 ?_|refine zg λ_ _=>?_|refine zi λ_ _=>?_)
    exact ⟨(i+1,v10),⟨rfl,rfl,rfl,rfl,rfl,trivial⟩,⟨((x5.trans x59).chg c10).mono (fun b hb=>.inr (o5.base b hb)),by simp only;omega,by simp only;rw [aQl hil2,if_pos hh];exact o10⟩,by simp only;omega⟩
   ·have hh:¬(evL l t)[i]'(by rw [←jV];exact hil2)=true:=fun h=>by have:=hev.1 h;have:=c3.none_ hcn;omega
    exact ⟨(i+1,v5),⟨rfl,rfl,rfl,rfl,rfl,trivial⟩,⟨by exact fx,by simp only;omega,by simp only;rw [aQl hil2,if_neg hh,List.append_nil];exact o5.ext (by exact fx)⟩,by simp only;omega⟩
  ·rw [tLe (by omega),tLe (by rw [←jV];omega)] at o5
   exact aC rfl ⟨o5.lower x34.size,x34.trans x5⟩
end
section
open Go Go.K
theorem bK2 (l:List ByteArray) (s:ByteArray):inS l s=inB l s:=by
 rw [Bool.eq_iff_iff,aUp,aNg]
theorem aXl {l:List Ent} (hE:∀x∈l,EntOk x) (s:ByteArray):(dR l s).tx.ins.length≤1000:=by
 by_cases h:dO l s=true
 ·exact (fE (hE _ (bDg h).1).check).ins
 ·have h2:(l.find? fun x=>decide (x.id=s))=none:=by
   have h1:=aB6 (p:=fun x:Ent=>decide (x.id=s)) (l:=l)
   unfold dO at h
   rw [←h1] at h
   exact Option.not_isSome_iff_eq_none.1 h
  unfold dR
  rw [h2]
  decide
attribute [local irreducible] aO aU bQ KOp.wp K.Spec u32 leS vnS str aV cU cD idT aR aG aX idN bD cF bT bH cA cO aZ bA aM iC dT pD lH bC evL inS inB
theorem aQu {v:Value} {l:List ByteArray} (a:ByteArray) (w:World) (hs:SlE bO w v l) (hn:l.length≤1000000):K.Spec Tryz.prog F.slices_Contains_L_string_string [v,.string a] w fun r w'=>r=.bool (inB l a)∧w'=w:=
 jH (aN3 a w hs (by omega)) fun r w' ⟨h1,h2⟩=>⟨by rw [h1,←bK2];unfold inS;rfl,h2⟩
theorem bMb:cM Tryz.prog F.replace_signals_1=true:=by kernel_rfl
theorem bHl:cM Tryz.prog F.replace_replaceable_1=true:=by kernel_rfl
theorem bD4 (x:TIn) (wv:Value) (w:World) (hw:wv.oneCell'=true):K.Spec Tryz.prog F.replace_signals_1 [.agg (gO x wv).toArray] w fun r w'=>r=.bool (decide (x.q<4294967294))∧Ext w w':=by
 refine aEn rfl ?_
 unfold rS
 refine oy ?_
 repeat' (first|refine go1 ?_|refine zg λ_ _=>?_|refine zi λ_ _=>?_|refine zD rfl rfl (fun bp wp xp ap (rp:Row wp ⟨bp,0,none⟩ (gO x wv)) hp0=>?_))
 exact aC rfl ⟨rfl,by exact fx⟩
theorem aJt {N:List Nat} {cs:List Value} {t:Tx} (w:World) (ht:txR.rel N w cs t) (hs:t.ins.length≤1000):K.Spec Tryz.prog F.replace_signals [.agg cs.toArray] w fun r w'=>r=.bool (aEx t)∧Ext w w':=by
 obtain ⟨iv,ov,rfl,hi,ho,hv⟩:=ht
 have tl:∀w1,Ext w w1→rF F.replace_signals_1 [] inR (fun cs=>.agg cs.toArray) N w1 t.ins (fun x=>decide (x.q<4294967294)):=fun w1 x1 x _ w' cs x2 hc=>by
  obtain ⟨bv,rfl,hw,_⟩:=hc
  exact bD4 x bv w' hw.one
 refine aH9 rfl ?_
 unfold vA
 refine oy ?_
 repeat' (first|refine go1 ?_|refine zg λ_ _=>?_|refine zi λ_ _=>?_|refine zD rfl rfl (fun bp wp xp ap (rp:Row wp ⟨bp,0,none⟩ (aK t iv ov)) hp0=>?_)|(refine zC rfl (pQ (l:=t.ins) (M:=N) (g:=F.replace_signals_1) (capl:= []) _ bMb (SlR.ext hi (by exact fx)) (by omega) (tl _ (by exact fx))) ?_;rintro _ w2 ⟨rfl,x2⟩))
 exact aC rfl ⟨rfl,by exact fx⟩
theorem bB2 {g b2:Nat} {M:List Nat} {l:List Ent} (s:ByteArray) (w:World) (hG:GrR w g M l) (hM:∀b∈M,b<w.heap.size) (hr:Row w ⟨b2,0,none⟩ [.pointer (some ⟨g,0,none⟩)]):
  K.Spec Tryz.prog F.replace_replaceable_1 [.string s,.pointer (some ⟨b2,0,none⟩)] w fun r w'=>r=.bool (aEx (dR l s).tx)∧Ext w w':=by
 have hE:=hG.ok
 have hsm:=aXl hE s
 refine xJ rfl ?_
 unfold nC
 refine oy ?_
 repeat' (first|refine go1 ?_|refine zg λ_ _=>?_|refine zi λ_ _=>?_|(refine zC (d:=some 9) rfl (nR (M:=M) s _ (hG.ext (by exact fx)) (fun b hb=>nLt (hM b hb) (Ext.size (by exact fx)))) ?_;rintro v5 w5 ⟨ds,rfl,e5,x5⟩;obtain ⟨iv,ov,rfl,o1,o2,o3⟩:=e5;have i1:=o1.one;have i2:=o2.one)|refine zE (d':=4) (fun _=>rfl) rfl rfl (by simp [bN,i1,i2];exact ⟨rfl,rfl,rfl,rfl,rfl⟩) (fun b6 w6 x6 a6 (r6:Row w6 ⟨b6,0,none⟩ (bN (dR l s) iv ov)) hb6=>?_)|(refine zC (d:=some 14) rfl (aJt (N:= []) (cs:=aK (dR l s).tx iv ov) (t:=(dR l s).tx) _ ⟨iv,ov,rfl,SlR.ext ((o1.sub (M':= []) (by simp)).sl (by simp)) (by exact fx),SlR.ext ((o2.sub (M':= []) (by simp)).sl (by simp)) (by exact fx),o3.1,o3.2.1⟩ hsm) ?_;rintro _ w7 ⟨rfl,x7⟩))
 exact aC rfl ⟨rfl,by exact fx⟩
set_option maxHeartbeats 1000000 in
theorem bFy {g:Nat} {M:List Nat} {l:List Ent} (s:ByteArray) (w:World) (hG:GrR w g M l) (hM:∀b∈M,b<w.heap.size) (hl:l.length≤1000):
  K.Spec Tryz.prog F.replace_replaceable [.pointer (some ⟨g,0,none⟩),.string s] w fun r w'=>r=.bool (gP l (dR l s))∧Ext w w':=by
 have hE:=hG.ok
 have hsm:=aXl hE s
 have hle:=kO l (aZ l (dR l s).tx)
 refine aBh rfl ?_
 unfold pG
 refine oy ?_
 repeat' (first|refine go1 ?_|refine zg λ_ _=>?_|refine zi λ_ _=>?_|refine zD rfl rfl (fun b2 wg xg ag (rg:Row wg ⟨b2,0,none⟩ [.pointer (some ⟨g,0,none⟩)]) hg0=>?_)|(refine zC (d:=some 10) rfl (nR (M:=M) s _ (hG.ext (by exact fx)) (fun b hb=>nLt (hM b hb) (Ext.size (by exact fx)))) ?_;rintro v5 w5 ⟨ds,rfl,e5,x5⟩;obtain ⟨iv,ov,rfl,o1,o2,o3⟩:=e5;have i1:=o1.one;have i2:=o2.one)|(refine zE (d':=5) (fun _=>rfl) rfl rfl (by simp [bN,i1,i2];exact ⟨rfl,rfl,rfl,rfl,rfl⟩) (fun b6 w6 x6 a6 (r6:Row w6 ⟨b6,0,none⟩ (bN (dR l s) iv ov)) hb6=>?_);have q1:=SlR.ext ((o1.sub (M':= []) (by simp)).sl (by simp)) x6;have q2:=SlR.ext ((o2.sub (M':= []) (by simp)).sl (by simp)) x6;clear o1 o2)|(refine zC (d:=some 15) rfl (aJt (N:= []) (cs:=aK (dR l s).tx iv ov) (t:=(dR l s).tx) _ ⟨iv,ov,rfl,SlR.ext q1 (by exact fx),SlR.ext q2 (by exact fx),o3.1,o3.2.1⟩ hsm) ?_;rintro _ w7 ⟨rfl,x7⟩)|refine zK rfl (fun h=>?_) (fun h=>?_)|(refine zC (d:=some 20) rfl (aDd (M:=M) (N:= []) (l:=l) (cs:=aK (dR l s).tx iv ov) (t:=(dR l s).tx) _ (hG.ext (by exact fx)) (fun b hb=>nLt (hM b hb) (Ext.size (by exact fx))) ⟨iv,ov,rfl,SlR.ext q1 (by exact fx),SlR.ext q2 (by exact fx),o3.1,o3.2.1⟩ hsm hl) ?_;rintro va w8 ⟨oa,x8⟩;have sa:SlR lL [] w8 va (aM l (aZ l (dR l s).tx)):=SlE.toR (F:=bO) (ag:=false) oa.sl (by simp);have tl:rF F.replace_replaceable_1 [.pointer (some ⟨b2,0,none⟩)] lL (fun cs=>cs.headD undef) [] w8 (aM l (aZ l (dR l s).tx)) (fun s=>aEx (dR l s).tx):=(fun x hx w' cs x2 hc=>by obtain rfl:cs= [Value.string x]:=hc;exact bB2 (M:=M) x w' (hG.ext (Ext.trans (by exact fx) x2)) (fun b hb=>nLt (hM b hb) (Ext.size (Ext.trans (by exact fx) x2))) (rg.ext (Ext.trans (by exact fx) x2))))|(refine zC (d:=some 22) rfl (zZ (l:=aM l (aZ l (dR l s).tx)) (M:= []) (g:=F.replace_replaceable_1) (capl:= [_]) _ bHl sa (by omega) tl) ?_;rintro _ w9 ⟨rfl,x9⟩))
 all_goals
  refine aC rfl ⟨congrArg Value.bool ?_,by exact fx⟩
  unfold gP
  simp only [h,Bool.true_or,Bool.false_or]
set_option maxHeartbeats 2000000 in
theorem aNq {g : Nat} {M N : List Nat} {l : List Ent} {cs : List Value} {t : Tx} {vc vg : Value} (w : World) (hG : GrR w g M l) (hM : ∀ b ∈ M, b < w.heap.size) (ht : txR.rel N w cs t) (hs : t.ins.length ≤ 1000) (hl : l.length ≤ 1000)
    (hc : SlE bO w vc (aM l (bC l t))) (hg : SlE bO w vg (aM l (evL l t))) :
    K.Spec Tryz.prog F.replace_fresh [.pointer (some ⟨g, 0, none⟩), .agg cs.toArray, vc, vg] w fun r w' => r = .bool (eQ l t) ∧ Ext w w' := by
  have hlc := kO l (bC l t)
  have hle := kO l (evL l t)
  obtain ⟨iv, ov, rfl, hi, ho, hv⟩ := ht
  obtain ⟨ids, hids⟩ : ∃ ids, ids = aM l (bC l t) := ⟨_, rfl⟩
  obtain ⟨gone, hgone⟩ : ∃ gone, gone = aM l (evL l t) := ⟨_, rfl⟩
  have hF : eQ l t = t.ins.any fun b => dM l b.p && (inB gone b.p.s || !inB ids (uN l b.p)) := by rw [hids, hgone]; rfl
  rw [← hids] at hc hlc
  rw [← hgone] at hg hle
  rw [hF]
  refine aM7 rfl ?_
  unfold aA6
  refine oy ?_
  repeat' (first|refine go1 ?_|refine zg λ_ _=>?_|refine zi λ_ _=>?_|refine zD rfl rfl (fun bt wt xt bt' (rt : Row wt ⟨bt, 0, none⟩ (aK t iv ov)) hbt0=>?_)|refine zG (d := some 17) (E := inR) (M := N) (l := t.ins) rfl (SlR.ext hi (by exact fx)) ?_|refine zL rfl (fun h => ?_) (fun h => ?_)|(refine aQ (fun (i : Nat) w' => Ext w w' ∧ i ≤ t.ins.length ∧ ∀ b ∈ t.ins.take i, (dM l b.p && (inB gone b.p.s || !inB ids (uN l b.p))) = false) (fun i => [(0, .pointer (some ⟨g, 0, none⟩)), (2, vc), (3, vg), (16, iv), (17, .int .i64 (t.ins.length : Nat)), (18, .int .i64 i)]) (fun i => t.ins.length - i) 0 ⟨rfl, rfl, rfl, rfl, rfl, rfl, trivial⟩ ⟨xt, by simp, by simp⟩ ?_; clear xt; rintro i ρ w3 ⟨x3, hi3, hno⟩))
  · have hil : i < t.ins.length := by omega
    refine aL (d := some 20) (E := inR) (M := N) rfl rfl (n := i) (l := t.ins) (hi.ext x3) rfl hil (fun ad cs r4 he => ?_)
    obtain ⟨wv, rfl, q1, q2, q3⟩ := he
    have i1 := q1.one
    have htk : ∀ {P : TIn → Prop}, (∀ b ∈ t.ins.take i, P b) → P t.ins[i] → ∀ b ∈ t.ins.take (i + 1), P b := fun h1 h2 b hb => by
      rw [List.take_succ_eq_append_getElem hil] at hb
      rcases List.mem_append.1 hb with h | h
      · exact h1 b h
      · simp at h; subst h; exact h2
    have hyes : ∀ {P : TIn → Bool}, P t.ins[i] = true → t.ins.any P = true := fun h => List.any_eq_true.2 ⟨_, gMe hil, h⟩
    obtain ⟨B, hB⟩ : ∃ B, dM l t.ins[i].p = B := ⟨_, rfl⟩
    obtain ⟨C, hC⟩ : ∃ C, inB gone t.ins[i].p.s = C := ⟨_, rfl⟩
    obtain ⟨D, hD⟩ : ∃ D, inB ids (uN l t.ins[i].p) = D := ⟨_, rfl⟩
    cases B <;> cases C <;> cases D
    all_goals repeat' (first|refine go1 ?_|refine zg λ_ _=>?_|refine zi λ_ _=>?_|refine zE (d' := 10) (fun _=>rfl) rfl rfl (by simp [gO, i1]; exact ⟨rfl, rfl, rfl⟩) (fun b6 w6 x6 a6 (r6 : Row w6 ⟨b6, 0, none⟩ (gO t.ins[i] wv)) hb6=>?_)|(refine zC (d := some 26) rfl (aJs (M := M) (l := l) t.ins[i].p q2 _ (hG.ext (by exact fx)) (fun b hb => nLt (hM b hb) (Ext.size (by exact fx)))) ?_; rintro _ w7 ⟨o, rfl, -, x7⟩; rw [hB])|refine zE (d' := 11) (vs := fD o) (fun _=>rfl) rfl rfl rfl (fun b8 w8 x8 a8 r8 hb8=>?_)|refine zM rfl (fun h => ?_) (fun h => ?_)|(refine zC (d := some 35) rfl (aIp (M := M) (l := l) t.ins[i].p _ (hG.ext (by exact fx))) ?_; rintro _ w9 ⟨rfl, x9⟩)|(refine zC (d := some 42) rfl (aQu (l := gone) t.ins[i].p.s _ (SlE.ext (by exact fx) hg) (by omega)) ?_; rintro _ _ ⟨rfl, rfl⟩; rw [hC])|(refine zC (d := some 46) rfl (aQu (l := ids) (uN l t.ins[i].p) _ (SlE.ext (by exact fx) hc) (by omega)) ?_; rintro _ _ ⟨rfl, rfl⟩; rw [hD])|refine zK rfl (fun h => ?_) (fun h => ?_))
    all_goals first
      | exact ⟨i + 1, ⟨rfl, rfl, rfl, rfl, rfl, rfl, trivial⟩, ⟨by exact fx, by omega, htk hno (by rw [hB, hC, hD]; rfl)⟩, by omega⟩
      | exact ⟨i + 1, ⟨rfl, rfl, rfl, rfl, rfl, rfl, trivial⟩, ⟨by exact fx, by omega, htk hno (by rw [hB]; rfl)⟩, by omega⟩
      | (rw [show (t.ins.any fun b => dM l b.p && (inB gone b.p.s || !inB ids (uN l b.p))) = true from hyes (by rw [hB, hC, hD]; rfl)]
         exact aC rfl ⟨rfl, by exact fx⟩)
  · have e : (t.ins.any fun b => dM l b.p && (inB gone b.p.s || !inB ids (uN l b.p))) = false := by
      rw [tLe (by omega)] at hno
      exact List.any_eq_false.2 (fun b hb => by rw [hno b hb]; simp)
    rw [e]
    exact aC rfl ⟨rfl, x3⟩
end
end Go.Proofs.YtfebcajheojodaaGreatDoor
