/- Contracts: a graph: new, an entry, what it has. Contracts: a -/
import Derived.Test.YteceapipdhnhdaaGreatDoorNa22
set_option linter.unusedVariables false
set_option linter.unusedSimpArgs false
namespace Go.Proofs.YteceapipdhnhdaaGreatDoor
section
open Go Go.K
attribute [local irreducible] aH aM aY KOp.wp K.Spec u32 leS vnS str aP cM bK idT aQ aG aN idN xL bG bQ spends
def aQq (B:Nat) (M:List Nat) (w:World) (cs:List Value) (x:Ent):Prop:=∃iv ov,cs=bE x iv ov∧bH inR T.api_In B M w iv x.tx.ins∧bH gF T.api_Out B M w ov x.tx.outs∧fN x.tx.ver∧fN x.tx.lock∧rT x.fee∧rT x.size
theorem aQq.rel {B:Nat} {M:List Nat} {w:World} {cs:List Value} {x:Ent} (h:aQq B M w cs x) (hM:∀b∈M,b<B):eD.rel M w cs x:=by
 obtain ⟨iv,ov,rfl,h1,h2,h3⟩:=h
 exact ⟨iv,ov,rfl,h1.slB hM,h2.slB hM,h3⟩
theorem aQq.ext {B:Nat} {M:List Nat} {w w':World} {cs:List Value} {x:Ent} (h:aQq B M w cs x) (c:Ext w w'):aQq B M w' cs x:=by
 obtain ⟨iv,ov,rfl,h1,h2,h3⟩:=h
 exact ⟨iv,ov,rfl,h1.ext c,h2.ext c,h3⟩
theorem aQq.lower {B B':Nat} {M:List Nat} {w:World} {cs:List Value} {x:Ent} (h:aQq B M w cs x) (hb:B'≤B):aQq B' M w cs x:=by
 obtain ⟨iv,ov,rfl,h1,h2,h3⟩:=h
 exact ⟨iv,ov,rfl,h1.lower hb,h2.lower hb,h3⟩
abbrev zR:List Value:= [.int .u32 0,.slice none 0 0,.slice none 0 0,.int .u32 0,.string ⟨#[]⟩,.int .i64 0,.int .i64 0]
abbrev dS (g b1 b2:Nat) (vo:Value):List Nat:=g::b1::b2::aC vo
structure GrP (w:World) (B g b1:Nat) (vo:Value) (b2:Nat) (m:List (ByteArray × Ent)) (sp:List (Pt × ByteArray)) (l:List Ent):Prop where
 at_:At w g (.cells [.map (some b1),vo,.map (some b2)].toArray T.graph_Graph (0,0))
 ents:nG sK eD (dS g b1 b2 vo) w b1 m
 pts:dB ptK Value.string w b2 sp
 ord:Own bB T.string B w vo (l.map (·.id))
 inv:GI m sp l
 nd:(dS g b1 b2 vo).Nodup
 lo:B≤g∧B≤b1∧B≤b2
def Gr (w:World) (B g:Nat) (M:List Nat) (l:List Ent):Prop:=∃b1 vo b2 m sp,GrP w B g b1 vo b2 m sp l∧M=dS g b1 b2 vo
theorem GrP.ext {w w':World} {B g b1 b2:Nat} {vo:Value} {m:List (ByteArray × Ent)} {sp:List (Pt × ByteArray)} {l:List Ent} (h:GrP w B g b1 vo b2 m sp l) (c:Ext w w'):GrP w' B g b1 vo b2 m sp l:=
 ⟨h.at_.ext c,h.ents.ext c,h.pts.ext c,h.ord.ext c,h.inv,h.nd,h.lo⟩
theorem Gr.ext {w w':World} {B g:Nat} {M:List Nat} {l:List Ent} (h:Gr w B g M l) (c:Ext w w'):Gr w' B g M l:=by
 obtain ⟨b1,vo,b2,m,sp,h,e⟩:=h;exact ⟨b1,vo,b2,m,sp,h.ext c,e⟩
theorem Gr.ok {w:World} {B g:Nat} {M:List Nat} {l:List Ent} (h:Gr w B g M l):∀x∈l,EntOk x:=by
 obtain ⟨b1,vo,b2,m,sp,h,e⟩:=h;exact h.inv.ok
theorem Gr.nodup {w:World} {B g:Nat} {M:List Nat} {l:List Ent} (h:Gr w B g M l):(l.map (·.id)).Nodup:=by
 obtain ⟨b1,vo,b2,m,sp,h,e⟩:=h;exact h.inv.nodup
theorem Gr.lt {w:World} {B g:Nat} {M:List Nat} {l:List Ent} (h:Gr w B g M l):∀b∈M,b<w.heap.size:=by
 obtain ⟨b1,vo,b2,m,sp,h,rfl⟩:=h
 intro b hb
 simp only [List.mem_cons] at hb
 rcases hb with rfl|rfl|rfl|hb
 ·exact h.at_.lt
 ·exact h.ents.lt
 ·exact h.pts.lt
 ·rcases h.ord with ⟨e,_⟩|⟨b',cap,junk,e,hB,hat,hl⟩
  ·rw [e] at hb;simp [aC] at hb
  ·rw [e] at hb;simp [aC] at hb;subst hb;exact hat.lt
theorem Gr.base {w:World} {B g:Nat} {M:List Nat} {l:List Ent} (h:Gr w B g M l):∀b∈M,B≤b:=by
 obtain ⟨b1,vo,b2,m,sp,h,rfl⟩:=h
 intro b hb
 have:=h.lo
 simp only [List.mem_cons] at hb
 rcases hb with rfl|rfl|rfl|hb
 ·omega
 ·omega
 ·omega
 ·exact h.ord.base b hb
structure GrQ (w:World) (g b1:Nat) (vo:Value) (b2:Nat) (M:List Nat) (m:List (ByteArray × Ent)) (sp:List (Pt × ByteArray)) (l:List Ent):Prop where
 at_:At w g (.cells [.map (some b1),vo,.map (some b2)].toArray T.graph_Graph (0,0))
 ents:nG sK eD M w b1 m
 pts:dB ptK Value.string w b2 sp
 ord:SlE bB w vo (l.map (·.id))
 inv:GI m sp l
def GrR (w:World) (g:Nat) (M:List Nat) (l:List Ent):Prop:=∃b1 vo b2 m sp,GrQ w g b1 vo b2 M m sp l
theorem Gr.r {w:World} {B g:Nat} {M:List Nat} {l:List Ent} (h:Gr w B g M l):GrR w g M l:=by
 obtain ⟨b1,vo,b2,m,sp,h,rfl⟩:=h
 exact ⟨b1,vo,b2,m,sp,h.at_,h.ents,h.pts,h.ord.sl,h.inv⟩
theorem GrR.more {w w':World} {g:Nat} {M M':List Nat} {l:List Ent} (h:GrR w g M l) (c:Ext w w') (hm:∀b∈M',b∈M∨w.heap.size≤b):GrR w' g M' l:=by
 obtain ⟨b1,vo,b2,m,sp,h⟩:=h
 exact ⟨b1,vo,b2,m,sp,h.at_.ext c,h.ents.step c (by simp) (by simp) hm,h.pts.ext c,h.ord.ext c,h.inv⟩
theorem GrR.ext {w w':World} {g:Nat} {M:List Nat} {l:List Ent} (h:GrR w g M l) (c:Ext w w'):GrR w' g M l:=h.more c (fun _ h=>.inl h)
theorem GrR.ok {w:World} {g:Nat} {M:List Nat} {l:List Ent} (h:GrR w g M l):∀x∈l,EntOk x:=by
 obtain ⟨b1,vo,b2,m,sp,h⟩:=h;exact h.inv.ok
theorem GrR.nodup {w:World} {g:Nat} {M:List Nat} {l:List Ent} (h:GrR w g M l):(l.map (·.id)).Nodup:=by
 obtain ⟨b1,vo,b2,m,sp,h⟩:=h;exact h.inv.nodup
theorem bAh (w:World):K.Spec Tryz.prog F.graph_New [] w fun r w'=>∃g M,r=.pointer (some ⟨g,0,none⟩)∧Gr w' w.heap.size g M []∧Ext w w':=by
 refine aZ0 rfl ?_
 unfold aLw
 refine oy ?_
 repeat' (first|refine aZ (cs:= [.map (some b1),.slice none 0 0,.map (some b2)]) rfl ?_|(first|refine go2 ?_|fail)|refine zD (cs:= [.map (some b1),.slice none 0 0,.map (some b2)]) rfl rfl (fun bp wp xp ap rp hp0=>?_)|refine iX (d:=some 1) (E:=sK) (fv:=id) (β:=Value) (fun b1 w1 x1 m1 hb1=>?_)|refine iX (d:=some 2) (E:=ptK) (fv:=Value.string) (fun b2 w2 x2 m2 hb2=>?_))
 have l1:=m1.lt
 have l2:=m2.lt
 have lp:=ap.lt
 exact aA rfl ⟨bp,_,rfl,⟨b1,.slice none 0 0,b2, [], [],⟨ap,nG.new (m1.ext (x2.trans xp)),m2.ext xp,Own.nil _ _ _,GI.nil,by simp [aC];omega,by have:=x1.size;have:=x2.size;omega⟩,rfl⟩,by exact fx⟩
def kV (t:Tx) (fee:Int):Int:=if aG t≠0 then aG t else if aN t then 4 else if !bT fee then 3 else 0
theorem aZb {M:List Nat} {cs:List Value} {t:Tx} (w:World) (ht:txR.rel M w cs t) (hs:t.Sm):K.Spec Tryz.prog F.tx_Base [.agg cs.toArray] w fun r w'=>r=.bool (aN t)∧Ext w w':=kA w ht hs
set_option maxHeartbeats 1000000 in
theorem aO4 {M:List Nat} {cs:List Value} {t:Tx} (fee:Int) (w:World) (ht:txR.rel M w cs t) (hs:t.Sm) (hf:rT fee) (hM:∀b∈M,b<w.heap.size):K.Spec Tryz.prog F.graph_entry [.agg cs.toArray,.int .i64 fee] w fun r w'=>
  ∃ds,r=.tuple #[.agg ds.toArray,.int .i64 (kV t fee)]∧ds.length=7∧ds.all (fun v=>v.oneCell')=true∧(kV t fee=0→EntOk ⟨t,idT t,fee,(aQ t:Nat)⟩∧aQq w.heap.size M w' ds ⟨t,idT t,fee,(aQ t:Nat)⟩)∧Ext w w':=by
 have ht0:=ht
 obtain ⟨iv,ov,rfl,h1,h2,h3⟩:=ht
 have key:∀{w6:World} {b4:Nat},Ext w w6→w.heap.size≤b4→txR.rel (b4::M) w6 (aK t iv ov) t:=fun x hb=>txR.step ht0 x (by simp) (by
  intro y hy
  rcases List.mem_cons.1 hy with h|h
  ·right;omega
  ·exact .inl h)
 by_cases hc:aG t=0
 ·have hz:=cI hs hc
  have hzs:=hz.size
  refine aE4 rfl ?_
  unfold wN
  refine oy ?_
  refine goR ?_
  refine zD rfl rfl (fun bp wp xp ap rp hp0=>?_)
  refine goR ?_
  refine zH (fun b4 w4 x4 a4 hb4=>?_)
  have sp:=xp.size
  have l4:=a4.lt
  repeat' (first|refine aZ (d:=some 18) (cs:=zR) rfl ?_|refine aZ (d:=some 23) (cs:=zR) rfl ?_|refine aZ (d:=some 28) (cs:=zR) rfl ?_|(first|refine go2 ?_|fail)|refine zM rfl (fun h=>?_) (fun h=>?_)|refine zN rfl (fun h=>?_) (fun h=>?_)|(refine zC rfl (vK (M:=M) _ (cs:=aK t iv ov) (by exact fx) hs) ?_;rintro _ w5 ⟨rfl,x5⟩;rw [idV,if_pos hc])|(refine zC rfl (aZb (M:=M) _ (cs:=aK t iv ov) (by exact fx) hs) ?_;rintro _ w6 ⟨rfl,x6⟩)|(refine zC rfl (iK (M:=M) _ (cs:=aK t iv ov) (by exact fx) hs) ?_;rintro _ w7 ⟨rfl,x7⟩;rw [pG,if_pos hc])|refine aW (w0:=w) (vs:=zR) (by exact fx) (by omega) (by exact atx) rfl rfl rfl rfl rfl (fun w9 x9 c9 a9 r9=>?_))
  ·exact aA (iY (bA r9 rfl rfl) bI) ⟨zR,by rw [kV,if_neg (by simpa using hc),if_pos h];rfl,rfl,rfl,fun e=>(by rw [kV,if_neg (by simpa using hc),if_pos h] at e;cases e),x9⟩
  ·exact aA (iY (bA r9 rfl rfl) bI) ⟨zR,by rw [kV,if_neg (by simpa using hc),if_neg (by simpa using ‹aN t=false›),if_pos h];rfl,rfl,rfl,fun e=>(by rw [kV,if_neg (by simpa using hc),if_neg (by simpa using ‹aN t=false›),if_pos h] at e;cases e),x9⟩
  ·have hg:aN t=false:=by assumption
   have s47:=Ext.size (w:=w4) (w':=w7) (by exact fx)
   have a4':=At.ext (show Ext w4 w7 by exact fx) a4
   have xw7:Ext w w7:=by exact fx
   refine zC rfl (vU (M:=b4::M) (cs:=aK t iv ov) _ (key xw7 (by omega)) hs (fun b hb=>?_)) ?_
   ·rcases List.mem_cons.1 hb with e|e
    ·omega
    ·have:=hM b e;have:=xw7.size;omega
   rintro _ w8 ⟨cs8,rfl,⟨iv8,ov8,rfl,o1,o2,o3⟩,x8⟩
   repeat (first|refine aZ (cs:=bE ⟨t,idT t,fee,(aQ t:Nat)⟩ iv8 ov8) rfl ?_|(first|refine go2 ?_|fail))
   have g1:=o1.base
   have g2:=o2.base
   refine aW (w0:=w) (vs:=bE ⟨t,idT t,fee,(aQ t:Nat)⟩ iv8 ov8) (xw7.trans x8) (by omega) (At.ext x8 a4') rfl rfl rfl rfl ?_ (fun w9 x9 c9 a9 r9=>?_)
   ·have e1:=o1.one
    have e2:=o2.one
    simp [bE,e1,e2];exact ⟨rfl,rfl,rfl,rfl,rfl⟩
   repeat (first|refine go2 ?_|fail)
   have h41:b4∉aC iv8:=fun h=>by have:=g1 _ h;omega
   have h42:b4∉aC ov8:=fun h=>by have:=g2 _ h;omega
   have p1:=o1.step (M':=M) c9 (by intro y hy;simp at hy;subst hy;exact ⟨h41,.inl (by simp)⟩) (fun _ h=>.inl (by simp [h]))
   have p2:=o2.step (M':=M) c9 (by intro y hy;simp at hy;subst hy;exact ⟨h42,.inl (by simp)⟩) (fun _ h=>.inl (by simp [h]))
   have hgf:bT fee=true:=by simpa using h
   have e0:kV t fee=0:=by rw [kV,if_neg (by simpa using hc),if_neg (by rw [hg];decide),if_neg (by rw [hgf];decide)]
   rw [e0]
   have s7:=xw7.size
   refine aA (iY (bA r9 rfl rfl) bI) ⟨_,rfl,rfl,?_,fun _=>⟨⟨hc,hg,hgf,rfl,rfl⟩,iv8,ov8,rfl,p1.lower s7,p2.lower s7,h3.1,h3.2,hf,by show rT ((aQ t:Nat):Int);unfold rT;omega⟩,x9⟩
   have e1:=o1.one
   have e2:=o2.one
   simp [bE,e1,e2];exact ⟨rfl,rfl,rfl,rfl,rfl⟩
 ·refine aE4 rfl ?_
  unfold wN
  refine oy ?_
  refine goR ?_
  refine zD rfl rfl (fun bp wp xp ap rp hp0=>?_)
  refine goR ?_
  refine zH (fun b4 w4 x4 a4 hb4=>?_)
  have sp:=xp.size
  repeat' (first|refine aZ (d:=some 18) (cs:=zR) rfl ?_|(first|refine go2 ?_|fail)|refine zN rfl (fun h=>?_) (fun h=>?_)|(refine zC rfl (vK (M:=M) _ (cs:=aK t iv ov) (by exact fx) hs) ?_;rintro _ w5 ⟨rfl,x5⟩;rw [idV,if_neg hc])|refine aW (w0:=w) (vs:=zR) (by exact fx) (by omega) (by exact atx) rfl rfl rfl rfl rfl (fun w9 x9 c9 a9 r9=>?_))
  ·have e0:kV t fee=aG t:=by rw [kV,if_pos hc]
   rw [e0]
   exact aA (iY (bA r9 rfl rfl) bI) ⟨zR,rfl,rfl,rfl,fun e=>absurd e hc,x9⟩
  ·exact absurd (by assumption) hc
end
section
open Go Go.K
attribute [local irreducible] aH aM aY KOp.wp K.Spec u32 leS vnS str aP cM bK idT aQ aG aN idN bG cL cB
theorem aCw (v:Value):(aC v).Nodup:=by
 unfold aC
 split<;>simp
theorem bLf {l:List Ent} {t:Tx} {fee:Int} (h:kV t fee≠0):fM l t fee=(l,kV t fee):=by
 unfold fM kV at*
 by_cases h1:aG t≠0
 ·rw [if_pos h1,if_pos h1]
 ·rw [if_neg h1] at*
  rw [if_neg h1]
  by_cases h2:aN t=true
  ·rw [if_pos h2,if_pos h2]
  ·rw [if_neg h2] at*
   rw [if_neg h2]
   by_cases h3:(!bT fee)=true
   ·rw [if_pos h3,if_pos h3]
   ·rw [if_neg h3] at h;exact absurd rfl h
theorem aJb {l:List Ent} {t:Tx} {fee:Int} (h:kV t fee=0) (hw:aG t=0→aN t=false→bT fee=true→True):fM l t fee=if l.any (fun x=>decide (x.id=idT t)) then (l,7) else if t.ins.any (fun i=>l.any fun x=>spends x i.p) then (l,15) else (l++ [⟨t,idT t,fee,(aQ t:Nat)⟩],0):=by
 unfold fM kV at*
 by_cases h1:aG t≠0
 ·rw [if_pos h1] at h;exact absurd h h1
 ·rw [if_neg h1] at*
  by_cases h2:aN t=true
  ·rw [if_pos h2] at h;cases h
  ·rw [if_neg h2] at*
   by_cases h3:(!bT fee)=true
   ·rw [if_pos h3] at h;cases h
   ·rw [if_neg h3]
end
section
open Go Go.K
attribute [local irreducible] aH aM aY KOp.wp K.Spec u32 leS vnS str aP cM bK idT aQ aG aN idN bG cL cB
theorem bEn (id:ByteArray) (w:World):K.Spec Tryz.prog F.graph_Graph_Get [.pointer none,.string id] w fun r w'=>r=.tuple #[.agg zR.toArray,.bool false]∧Ext w w':=by
 refine vO rfl ?_
 unfold nX
 refine oy ?_
 repeat' (first|(first|refine go2 ?_|fail)|refine zH (fun b4 w4 x4 a4 hb4=>?_)|refine aZ (cs:=zR) rfl ?_|refine aW (w0:=w) (vs:=zR) (by exact fx) (by omega) (by exact atx) rfl rfl rfl rfl rfl (fun w9 x9 c9 a9 r9=>?_))
 exact aA (iY (bA r9 rfl rfl) bI) ⟨rfl,x9⟩
theorem aZz (p:Pt) (w:World):K.Spec Tryz.prog F.graph_Graph_Spender [.pointer none,.agg p.cs.toArray] w fun r w'=>r=.tuple #[.string ⟨#[]⟩,.bool false]∧Ext w w':=by
 refine pA rfl ?_
 unfold jN
 refine oy ?_
 repeat' (first|(first|refine go2 ?_|fail)|(first|refine zD rfl rfl (fun bp wp xp ap rp hp0=>?_)|refine zE (fun _=>rfl) rfl rfl rfl (fun bq wq xq aq rq hq0=>?_)))
 exact aA rfl ⟨rfl,by exact fx⟩
theorem all_nil (w:World):K.Spec Tryz.prog F.graph_Graph_All [.pointer none] w fun r w'=>r=.slice none 0 0∧Ext w w':=by
 refine vF rfl ?_
 unfold nK
 refine oy ?_
 repeat' (first|(first|refine go2 ?_|fail)|(first|refine zD rfl rfl (fun bp wp xp ap rp hp0=>?_)|refine zE (fun _=>rfl) rfl rfl rfl (fun bq wq xq aq rq hq0=>?_)))
 exact aA rfl ⟨rfl,by exact fx⟩
theorem sum_nil {v:Value} {ids:List ByteArray} (w:World) (hi:SlE bB w v ids) (hn:ids.length≤1):K.Spec Tryz.prog F.graph_Graph_Sum [.pointer none,v] w fun r w'=>r=.tuple #[.int .i64 0,.int .i64 0]∧Ext w w':=by
 refine vY rfl ?_
 unfold nR
 refine oy ?_
 repeat' (first|(first|refine go2 ?_|fail)|refine zL rfl (fun h=>?_) (fun h=>?_)|(refine iX (E:=sK) (fv:=fun n:Nat=>Value.int .i64 (n:Nat)) (fun bm w1 x1 m1 hb1=>?_);have lm:=m1.lt)|refine bL rfl (SlE.ext (w:=w) (by exact fx) hi) ?_|(refine aJ (fun (p:Nat) w'=>Ext w w'∧p≤ids.length∧(p=0→dB sK (fun n:Nat=>Value.int .i64 (n:Nat)) w' bm [])) (fun p=> [(0,.pointer none),(6,.int .i64 0),(7,.int .i64 0),(8,.map (some bm)),(14,v),(15,.int .i64 (ids.length:Nat)),(16,.int .i64 (p:Nat))]) (fun p=>ids.length - p) 0 ⟨rfl,rfl,rfl,rfl,rfl,rfl,rfl,trivial⟩ ⟨x1,by simp,fun _=>m1⟩ ?_;rintro i ρ w3 ⟨x3,hi3,hm⟩))
 ·have hi0:i=0:=by omega
  subst hi0
  have hil:0<ids.length:=by omega
  have hm:=hm rfl
  refine aT rfl rfl (n:=0) (l:=ids) (hi.ext x3) rfl hil (fun ad r5=>?_)
  have r5:Row w3 ad [Value.string ids[0]]:=r5
  repeat' (first|(first|refine go2 ?_|fail)|refine eQ (d:=some 22) (E:=sK) (fv:=fun n:Nat=>Value.int .i64 (n:Nat)) (k:=ids[0]) rfl rfl hm rfl rfl (fun c hcc=>by simp [aS] at hcc) (fun hcn=>?_)|(refine eY (E:=sK) (fv:=fun n:Nat=>Value.int .i64 (n:Nat)) (k:=ids[0]) (v:=1) rfl rfl rfl hm rfl rfl (fun w4 c4 m4=>?_);have x4:Ext w w4:=(Ext.chg x3 c4).mono (by intro y hy;simp at hy;right;omega);clear x3)|(refine eQ (d:=some 26) (E:=sK) (fv:=fun n:Nat=>Value.int .i64 (n:Nat)) (k:=ids[0]) rfl rfl m4 rfl rfl (fun c hcc=>?_) (fun hcn=>by rw [cP,if_pos rfl] at hcn;cases hcn);rw [cP,if_pos rfl] at hcc;injection hcc with hcc;subst hcc)|refine zL rfl (fun h9=>absurd h9 (by decide)) (fun h9=>?_)|(refine zC rfl (bEn ids[0] _) ?_;rintro _ w5 ⟨rfl,x5⟩)|refine zE (d':=11) (fun _=>rfl) rfl rfl rfl (fun b6 w6 x6 a6 (r6:Row w6 ⟨b6,0,none⟩ zR) hb6=>?_))
  exact ⟨1,⟨rfl,rfl,rfl,rfl,rfl,rfl,rfl,trivial⟩,⟨by exact fx,by omega,fun h=>by omega⟩,by omega⟩
 ·exact aA rfl ⟨rfl,x3⟩
end
end Go.Proofs.YteceapipdhnhdaaGreatDoor
namespace Go.K
section
open Go
theorem aB2 {base base':Nat→Bool} {edge edge':Nat→Nat→Bool} {n:Nat} (hb:∀i,i<n→base i=base' i) (he:∀k i,k<n→i<n→edge k i=edge' k i):∀(r i:Nat),i<n→bG base edge n r i=bG base' edge' n r i
 |0,_,_=>rfl
 |r+1,i,hi=>by
  rw [Bool.eq_iff_iff,iV,iV,hb i hi]
  refine or_congr Iff.rfl ⟨fun ⟨k,h1,h2,h3⟩=>⟨k,h1,?_,?_⟩,fun ⟨k,h1,h2,h3⟩=>⟨k,h1,?_,?_⟩⟩
  ·rw [←aB2 hb he r k h1];exact h2
  ·simp_all
  ·rw [aB2 hb he r k h1];exact h2
  simp [*]
theorem aHh {base base':Nat→Bool} {edge edge':Nat→Nat→Bool} {n:Nat} (hb:∀i,i<n→base i=base' i) (he:∀k i,k<n→i<n→edge k i=edge' k i):tJ base edge n=tJ base' edge' n:=by
 grind [tJ,List.map_congr_left,aB2]
theorem aGu {l:List Ent} (hn:(l.map (·.id)).Nodup) {i:Nat} (hi:i<l.length):(l.find? fun x=>decide (x.id=l[i].id))=some l[i]:=by
 cases h:l.find? fun y=>decide (y.id=l[i].id) with
 |none=>exact absurd (List.find?_eq_none.1 h _ (gMe hi)) (by simp)
 |some y=>
  have h1:=List.mem_of_find?_eq_some h
  have h2:y.id=l[i].id:=by simpa using List.find?_some h
  obtain ⟨j,hj,rfl⟩:=List.getElem_of_mem h1
  grind [kX,bY]
theorem bM3 {l:List Ent} (ha:l.Pairwise fun x y=>∀p,spends x p=true→spends y p=false) {i:Nat} (hi:i<l.length) {p:Pt} (hp:spends l[i] p=true):(l.find? fun x=>spends x p)=some l[i]:=by
 induction l generalizing i with
 |nil=>grind
 |cons x l ih=>
  grind [List.pairwise_cons]
theorem bBn {l:List Ent} {m:List Bool} (h:∀b∈m,b=false):aO l m= []:=by
 induction l generalizing m with
 |nil=>cases m<;>rfl
 |cons x l ih=>cases m with
  |nil=>rfl
  |cons b m=>
   rw [aO,h b (by simp)]
   simp_all
end
section
open Go
abbrev rG (l:List Ent) (id:ByteArray):Ent:=(l.find? fun x=>decide (x.id=id)).getD default
def inB (l:List ByteArray) (x:ByteArray):Bool:=l.any fun y=>decide (y=x)
theorem bMe {l:List ByteArray} {x:ByteArray}:inB l x=true↔x∈l:=by
 unfold inB
 simp
def aFu:List ByteArray→List ByteArray
 | []=> []
 |x::l=>x::(aFu l).filter fun y=>decide (y≠x)
def kZ (l:List Ent) (ids:List ByteArray):Int:=((aFu ids).map fun s=>(rG l s).fee).sum
def fL (l:List Ent) (ids:List ByteArray):Int:=((aFu ids).map fun s=>(rG l s).size).sum
theorem aTo (xs:List ByteArray) (x:ByteArray):aFu (xs++ [x])=if inB xs x then aFu xs else aFu xs++ [x]:=by
 induction xs with
 |nil=>rfl
 |cons a xs ih=>
  rw [List.cons_append,aFu,ih]
  have e:inB (a::xs) x=(decide (a=x)||inB xs x):=rfl
  by_cases h:inB xs x=true
  ·rw [if_pos h,e,h,Bool.or_true,if_pos rfl,aFu]
  ·rw [if_neg h,e]
   simp only [Bool.not_eq_true] at h
   rw [h,Bool.or_false,List.filter_append]
   grind [aFu]
theorem aZs (ids:List ByteArray):(aFu ids).length≤ids.length:=by
 induction ids with
 |nil=>exact Nat.le_refl _
 |cons x l ih=>
  grind [aFu]
theorem bHx {l:List Ent} {ids:List ByteArray} {i:Nat} (h:i<ids.length):kZ l (ids.take (i+1))=if inB (ids.take i) ids[i] then kZ l (ids.take i) else kZ l (ids.take i)+(rG l ids[i]).fee:=by
 unfold kZ
 rw [List.take_succ_eq_append_getElem h,aTo]
 grind
theorem bB7 {l:List Ent} {ids:List ByteArray} {i:Nat} (h:i<ids.length):fL l (ids.take (i+1))=if inB (ids.take i) ids[i] then fL l (ids.take i) else fL l (ids.take i)+(rG l ids[i]).size:=by
 unfold fL
 rw [List.take_succ_eq_append_getElem h,aTo]
 grind
theorem bEh {l:List Ent} (hl:∀x∈l,bT x.fee=true∧0≤x.size∧x.size≤100000000000) (s:ByteArray):(0≤(rG l s).fee∧(rG l s).fee≤2100000000000000)∧0≤(rG l s).size∧(rG l s).size≤100000000000:=by
 unfold rG
 cases h:l.find? fun x=>decide (x.id=s) with
 |none=>exact ⟨⟨Int.le_refl _,by show (0:Int)≤_;omega⟩,Int.le_refl _,by show (0:Int)≤_;omega⟩
 |some y=>
  grind [bR]
theorem aKr {α:Type} {f:α→Int} {c:Nat} (hf:∀x,0≤f x∧f x≤c):∀l:List α,0≤(l.map f).sum∧(l.map f).sum≤c*l.length
 | []=>by simp
 |x::l=>by
  have h1:=aKr hf l
  have h2:=hf x
  rw [List.map_cons,List.sum_cons,List.length_cons,Int.natCast_add,Int.mul_add]
  omega
theorem aFr {l:List Ent} (hl:∀x∈l,bT x.fee=true∧0≤x.size∧x.size≤100000000000) {ids:List ByteArray} (hn:ids.length≤4000):(0≤kZ l ids∧kZ l ids≤8400000000000000000)∧0≤fL l ids∧fL l ids≤400000000000000:=by
 have h1:=aKr (c:=2100000000000000) (fun s=>(bEh hl s).1) (aFu ids)
 have h2:=aKr (c:=100000000000) (fun s=>(bEh hl s).2) (aFu ids)
 grind [aZs,kZ,fL]
theorem aO8 {ids:List ByteArray} (h:ids.Nodup):aFu ids=ids:=by
 induction ids with
 |nil=>rfl
 |cons x l ih=>
  grind [aFu,List.filter_eq_self]
theorem jG:∀(l:List Ent) (m:List Bool),(aO l m).Sublist (l.map (·.id))
 | [],m=>by cases m<;>exact List.Sublist.slnil
 |x::l, []=>by show ([]:List ByteArray).Sublist _;simp
 |x::l,b::m=>by
  rw [aO,List.map_cons]
  cases b
  ·exact (jG l m).cons _
  ·exact (jG l m).cons_cons _
theorem bHh {x:Ent} {l:List Ent} (h:x.id∉l.map (·.id)) {s:ByteArray} (hs:s∈l.map (·.id)):rG (x::l) s=rG l s:=by
 grind
theorem aJ0:∀{l:List Ent} (_:(l.map (·.id)).Nodup) (m:List Bool),((aO l m).map fun s=>(rG l s).fee).sum=lI l m∧((aO l m).map fun s=>(rG l s).size).sum=aUq l m
 | [],_,m=>by cases m<;>exact ⟨rfl,rfl⟩
 |x::l,_, []=>⟨rfl,rfl⟩
 |x::l,h,b::m=>by
  rw [List.map_cons,List.nodup_cons] at h
  have ih:=aJ0 h.2 m
  have h0:rG (x::l) x.id=x:=by unfold rG;rw [List.find?_cons_of_pos (by simp)];rfl
  have h1:∀s∈aO l m,rG (x::l) s=rG l s:=fun s hs=>bHh h.1 ((jG l m).subset hs)
  have e1:((aO l m).map fun s=>(rG (x::l) s).fee)=(aO l m).map fun s=>(rG l s).fee:=List.map_congr_left fun s hs=>by rw [h1 s hs]
  have e2:((aO l m).map fun s=>(rG (x::l) s).size)=(aO l m).map fun s=>(rG l s).size:=List.map_congr_left fun s hs=>by rw [h1 s hs]
  cases b
  ·simp only [aO,lI,aUq,Bool.false_eq_true,if_false]
   simp [*]
  ·simp only [aO,lI,aUq,if_true]
   simp [*]
end
section
open Go
variable {l:List Ent} {s:ByteArray}
theorem aNq (l:List Ent) (s:ByteArray):l.length=(bV l s).length:=(aRg _ _ _).symm
theorem bLp:∀{l:List Ent} {m:List Bool},(∀b∈m,b=false)→aO l m= []
 | [],m,_=>by cases m<;>rfl
 |_::_, [],_=>rfl
 |x::l,b::m,h=>by
  have hb:=h b (by simp)
  subst hb
  exact bLp (l:=l) (m:=m) fun b hb=>h b (by simp [hb])
end
section
open Go
end
section
open Go
theorem bFk {l:List Ent} (h:(l.map (·.id)).Nodup) (m:List Bool):fL l (aO l m)=aUq l m:=by
 grind [fL,aO8,jG,aJ0]
def wiP (l:List Ent) (ids:List ByteArray) (more count size:Int):Bool:=decide ((ids.length:Int)+1≤count)&&decide (fL l ids+more≤size)
def hoP (l:List Ent) (line:List ByteArray) (more count size:Int):Bool:=line.all fun s=>wiP l (aO l (bV l s)) more count size
def iN (l:List Ent) (t:Tx):Int:=
 if aG t≠0 then aG t
 else if wiP l (aO l (dC l t)) (aQ t:Nat) 25 101000=false then 14
 else if hoP l (aO l (dC l t)) (aQ t:Nat) 25 101000 then 0
 else if ((aO l (dC l t)).length:Int)=1∧((aQ t:Nat):Int)≤10000∧hoP l (aO l (dC l t)) (aQ t:Nat) 26 111000=true then 0 else 14
end
end Go.K
namespace Go.Proofs.YteceapipdhnhdaaGreatDoor
section
open Go Go.K
section
attribute [local irreducible] aH aM aY KOp.wp u32 leS vnS str aP cM bK idT aQ aG aN idN bG cL cB
theorem aHs {mb:Nat} {M:List Nat} {m:List (ByteArray × Ent)} (w:World) (h:nG sK eD M w mb m):K.Spec Tryz.prog F.maps_Clone_map_string_api_Entry_string_api_Entry [.map (some mb)] w fun v w'=>∃mb',v=.map (some mb')∧(∀M',nG sK eD M' w mb m→nG sK eD M' w' mb' m)∧mb'<w'.heap.size∧w.heap.size≤mb'∧Ext w w':=by
 obtain ⟨mv,h1,h2⟩:=h
 obtain ⟨es,clock,h1,h3⟩:=h1
 refine (AnyW.maps_Clone Tryz.cloneMap137 mb es clock w h1).mono fun e w' ⟨he,hw⟩=>⟨_,he,_,rfl,?_⟩
 subst hw
 have hx:=Ext.alloc w (.map es clock)
 refine ⟨fun M' h=>?_,(At.new w (.map es clock)).lt,Nat.le_refl _,hx⟩
 obtain ⟨mv,k1,h2⟩:=h
 obtain ⟨es',clock',k1,h3⟩:=k1
 have e:Obj.map es clock=Obj.map es' clock':=Option.some.inj ((show w.heap[mb]? =some (.map es clock) from h1).symm.trans k1)
 cases e
 exact ⟨mv,⟨es,clock,At.new _ _,h3⟩,h2.mono fun _ _ ⟨e,cs,e2,hr⟩=>⟨e,cs,e2,R.ext hr hx⟩⟩
theorem aIx {mb:Nat} {m:List (Pt × ByteArray)} (w:World) (h:dB ptK Value.string w mb m):K.Spec Tryz.prog F.maps_Clone_map_api_Point_string_api_Point_string [.map (some mb)] w fun v w'=>∃mb',v=.map (some mb')∧dB ptK Value.string w' mb' m∧w.heap.size≤mb'∧Ext w w':=by
 obtain ⟨es,clock,h1,h2⟩:=h
 refine (AnyW.maps_Clone Tryz.cloneMap138 mb es clock w h1).mono fun e w' ⟨he,hw⟩=>⟨_,he,_,rfl,?_⟩
 subst hw
 exact ⟨⟨es,clock,At.new _ _,h2⟩,Nat.le_refl _,Ext.alloc _ _⟩
end
attribute [local irreducible] aH aM aY KOp.wp K.Spec u32 leS vnS str aP cM bK idT aQ aG aN idN bG cL cB
set_option maxHeartbeats 1000000 in
theorem bCc {g:Nat} {M:List Nat} {l:List Ent} (w:World) (hG:GrR w g M l) (hM:∀b∈M,b<w.heap.size) (hn:l.length≤1000):K.Spec Tryz.prog F.graph_Graph_Copy [.pointer (some ⟨g,0,none⟩)] w fun r w'=>
  ∃g' M',r=.pointer (some ⟨g',0,none⟩)∧Gr w' w.heap.size g' M' l∧Ext w w':=by
 obtain ⟨b1,vo,b2,m,sp,hP⟩:=hG
 have rg:Row w ⟨g,0,none⟩ [.map (some b1),vo,.map (some b2)]:=Row.of_at hP.at_
 have q1:=hP.ents
 have q2:=hP.pts
 have q3:=hP.ord
 refine tG rfl ?_
 unfold lR
 refine oy ?_
 repeat' (first|refine go1 ?_|refine zg λ_ _=>?_|refine zi λ_ _=>?_|refine fG ?_ ?_|(refine zC rfl (aHs (M:=M) (m:=m) _ (by exact fx)) ?_;rintro _ wa ⟨c1,rfl,p1,la,hc1,xa⟩;have sa:=xa.size)|(refine zC rfl (aIx (m:=sp) _ (by exact fx)) ?_;rintro _ wc ⟨c2,rfl,p2,hc2,xc⟩;have lc:=p2.lt;have sc:=xc.size)|(refine zC rfl (uS (M:= []) (v:=vo) (l:=l.map (fun x:Ent=>x.id)) _ (SlE.toR (F:=bB) (ag:=false) (SlE.ext (w:=w) (by exact fx) q3) (by simp)) (by simp;omega) (by simp)) ?_;rintro v5 wb ⟨o5,xb⟩;have lb:=o5.lt;have gb:=o5.base;replace o5:=bH.toOwn o5;have sb:=xb.size;obtain ⟨bb,cb,rfl⟩:=o5.sl.form)|refine zD (cs:= [.map (some c1),.slice bb (l.map (fun x:Ent=>x.id)).length cb,.map (some c2)]) rfl rfl (fun bp wp xp ap rp hp0=>?_))
 all_goals
  rename_i xz
  have s0:=xz.size
  have szp:=xp.size
  have lp:=ap.lt
  generalize Value.slice bb (l.map (fun x:Ent=>x.id)).length cb=v5 at*
  have hmm:∀b∈dS bp c1 c2 v5,w.heap.size≤b:=fun b hb=>by
   simp only [List.mem_cons] at hb
   rcases hb with rfl|rfl|rfl|hb
   ·omega
   ·omega
   ·omega
   ·have:=gb b hb;omega
  refine aA rfl ⟨bp,_,rfl,⟨c1,v5,c2,m,sp,⟨ap,?_,by exact fx,?_,hP.inv,?_,by omega,by omega,by omega⟩,rfl⟩,by exact fx⟩
  ·exact (p1 _ (q1.step (show Ext w _ by exact fx) (by simp) (by simp) (fun b hb=>.inr (hmm b hb)))).ext (by exact fx)
  ·exact Own.lower (Own.ext (by exact fx) o5) (by omega)
  ·have n5:(aC v5).Nodup:=by
    cases v5<;>try exact List.nodup_nil
    rename_i b _ _;cases b<;>simp [aC]
   have:∀b∈aC v5,b≠bp∧b≠c1∧b≠c2:=fun b hb=>by have:=gb b hb;have:=lb b hb;omega
   simp only [List.nodup_cons,List.mem_cons,not_or]
   exact ⟨⟨by omega,by omega,fun h=>(this _ h).1 rfl⟩,⟨by omega,fun h=>(this _ h).2.1 rfl⟩,fun h=>(this _ h).2.2 rfl,n5⟩
end
end Go.Proofs.YteceapipdhnhdaaGreatDoor
