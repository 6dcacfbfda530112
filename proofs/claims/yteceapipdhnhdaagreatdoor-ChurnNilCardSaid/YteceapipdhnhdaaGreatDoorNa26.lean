/- Contracts: what a graph answers. Contracts: what a graph ans -/
import Derived.Test.YteceapipdhnhdaaGreatDoorNa23
import Derived.Test.YteceapipdhnhdaaGreatDoorNa24
set_option linter.unusedVariables false
set_option linter.unusedSimpArgs false
namespace Go.Proofs.YteceapipdhnhdaaGreatDoor
section
open Go Go.K
attribute [local irreducible] aH aM aY KOp.wp K.Spec u32 leS vnS str aP cM bK idT aQ aG aN idN xL bG bQ spends
abbrev dI (l:List Ent) (id:ByteArray):Ent:=(l.find? fun x=>decide (x.id=id)).getD default
abbrev iM (l:List Ent) (id:ByteArray):Bool:=l.any fun x=>decide (x.id=id)
theorem aH9 {α:Type} {p:α→Bool} {l:List α}:(l.find? p).isSome=l.any p:=by
 rw [Bool.eq_iff_iff,List.find?_isSome,List.any_eq_true]
theorem aI4 {l:List Ent} {id:ByteArray} {y:Ent} (h:(l.find? fun x=>decide (x.id=id))=some y):iM l id=true∧dI l id=y∧y∈l∧y.id=id:=by
 have h1:=aH9 (p:=fun x:Ent=>decide (x.id=id)) (l:=l)
 rw [h] at h1
 exact ⟨h1.symm,by unfold dI;rw [h];rfl,List.mem_of_find?_eq_some h,by simpa using List.find?_some h⟩
theorem bJk {l:List Ent} {id:ByteArray} (h:(l.find? fun x=>decide (x.id=id))=none):iM l id=false∧dI l id=default:=by
 have h1:=aH9 (p:=fun x:Ent=>decide (x.id=id)) (l:=l)
 rw [h] at h1
 exact ⟨h1.symm,by unfold dI;rw [h];rfl⟩
theorem bLu:fN 0:=by unfold fN;omega
theorem bK0:rT 0:=by unfold rT;omega
set_option maxHeartbeats 2000000 in
theorem nS {g:Nat} {M:List Nat} {l:List Ent} (id:ByteArray) (w:World) (hG:GrR w g M l) (hlt:∀b∈M,b<w.heap.size):K.Spec Tryz.prog F.graph_Graph_Get [.pointer (some ⟨g,0,none⟩),.string id] w fun r w'=>
  ∃ds,r=.tuple #[.agg ds.toArray,.bool (iM l id)]∧aQq w.heap.size M w' ds (dI l id)∧Ext w w':=by
 obtain ⟨b1,vo,b2,m,sp,hP⟩:=hG
 have rg:Row w ⟨g,0,none⟩ [.map (some b1),vo,.map (some b2)]:=Row.of_at hP.at_
 have hinv:=hP.inv
 refine vO rfl ?_
 unfold nX
 refine oy ?_
 refine goR ?_
 refine zH (fun b4 w4 x4 a4 hb4=>?_)
 have l4:=a4.lt
 have hmap:nG sK eD ([b4]++M) w4 b1 m:=hP.ents.step x4 (by simp) (by simp) (aAq (fun b hb=>by simp at hb;omega))
 repeat' (first|(first|refine go2 ?_|fail)|refine aAy (z:=.agg (bE default (.slice none 0 0) (.slice none 0 0)).toArray) (KE:=sK) (F:=eD) (k:=id) rfl rfl hmap rfl rfl (fun y cs hy hr=>?_) (fun hn=>?_))
 ·rw [hinv.ent] at hy
  obtain ⟨e1,e2,e3,e4⟩:=aI4 hy
  rw [e1,e2]
  have hsm:y.tx.Sm:=nD (hinv.ok y e3).check
  obtain ⟨iv,ov,rfl,h1,h2,h3⟩:=hr
  refine goR ?_
  refine zE (fun _=>rfl) rfl rfl (by show (bE y iv ov).all _=true;simp [bE,h1.one,h2.one];exact ⟨rfl,rfl,rfl,rfl,rfl⟩) (fun b6 w6 x6 a6 (r6:Row w6 ⟨b6,0,none⟩ (bE y iv ov)) hb6=>?_)
  have l6:=a6.lt
  have s4:=x4.size
  have s6:=x6.size
  have hmem:∀b∈ [b6]++([b4]++M),b∈ [b4]++M∨w4.heap.size≤b:=aAq (fun b hb=>by simp at hb;omega)
  have h16:SlR inR ([b6]++([b4]++M)) w6 iv y.tx.ins:=h1.step x6 (by simp) hmem
  have h26:SlR gF ([b6]++([b4]++M)) w6 ov y.tx.outs:=h2.step x6 (by simp) hmem
  have hM6:∀b∈ [b6]++([b4]++M),b<w6.heap.size:=fun b hb=>by
   simp only [List.mem_append,List.mem_singleton] at hb
   rcases hb with h|h|h
   ·omega
   ·omega
   ·have:=hlt b h;omega
  refine goR ?_
  refine zC rfl (vU (M:= [b6]++([b4]++M)) (cs:=aK y.tx iv ov) (t:=y.tx) _ ⟨iv,ov,rfl,h16,h26,h3.1,h3.2.1⟩ hsm hM6) ?_
  rintro _ w7 ⟨cs7,rfl,⟨iv7,ov7,rfl,o1,o2,o3⟩,x7⟩
  refine goR ?_
  have g1:=o1.base
  have g2:=o2.base
  have e1:=o1.one
  have e2:=o2.one
  have s7:=x7.size
  refine sO (o:=0) (b:=b6) (cur:=bE y iv ov) (vs:=aK y.tx iv7 ov7) rfl rfl rfl (gQ (by simp [aK,e1,e2];exact ⟨rfl,rfl⟩)) (At.ext x7 a6) (Nat.le_of_ble_eq_true rfl) (fun w8 c8 a8=>?_)
  have a8:At w8 b6 (.cells (bE y iv7 ov7).toArray T.api_Entry (0,0)):=a8
  have r8:Row w8 ⟨b6,0,none⟩ (bE y iv7 ov7):=Row.of_at a8
  have x8:Unit→Ext w w8:=fun _=>(Ext.chg ((x4.trans x6).trans x7) c8).mono (by intro q hq;simp at hq;right;omega)
  have s8:=c8.size
  have a48:=At.chg c8 (At.ext x7 (At.ext x6 a4)) (by simp;omega)
  have h61:b6∉aC iv7:=fun h=>by have:=g1 _ h;omega
  have h62:b6∉aC ov7:=fun h=>by have:=g2 _ h;omega
  have p1:=o1.step (M':= [b4]++M) c8 (by intro q hq;simp at hq;subst hq;exact ⟨h61,.inl (by simp)⟩) (fun _ h=>.inl (List.mem_append_right _ h))
  have p2:=o2.step (M':= [b4]++M) c8 (by intro q hq;simp at hq;subst hq;exact ⟨h62,.inl (by simp)⟩) (fun _ h=>.inl (List.mem_append_right _ h))
  clear c8 x7 x6
  refine goR ?_
  refine aW (w0:=w) (vs:=bE y iv7 ov7) (x8 ()) (by omega) a48 rfl rfl rfl rfl (by simp [bE,e1,e2];exact ⟨rfl,rfl,rfl,rfl,rfl⟩) (fun w9 x9 c9 a9 r9=>?_)
  refine goR ?_
  have h41:b4∉aC iv7:=fun h=>by have:=g1 _ h;omega
  have h42:b4∉aC ov7:=fun h=>by have:=g2 _ h;omega
  have q1:=p1.step (M':=M) c9 (by intro q hq;simp at hq;subst hq;exact ⟨h41,.inl (by simp)⟩) (fun _ h=>.inl (List.mem_append_right _ h))
  have q2:=p2.step (M':=M) c9 (by intro q hq;simp at hq;subst hq;exact ⟨h42,.inl (by simp)⟩) (fun _ h=>.inl (List.mem_append_right _ h))
  exact aA (iY (bA r9 rfl rfl) bI) ⟨_,rfl,⟨iv7,ov7,rfl,q1.lower (by omega),q2.lower (by omega),h3⟩,x9⟩
 ·rw [hinv.ent] at hn
  obtain ⟨e1,e2⟩:=bJk hn
  rw [e1,e2]
  generalize hy:(default:Ent)=y
  generalize hq:bE y (.slice none 0 0) (.slice none 0 0)=cq
  have hsm:y.tx.Sm:=by subst hy;exact ⟨by decide,by decide,fun x hx=>by cases hx⟩
  obtain ⟨iv,hiv⟩:∃iv:Value,iv=.slice none 0 0:=⟨_,rfl⟩
  obtain ⟨ov,hov⟩:∃ov:Value,ov=.slice none 0 0:=⟨_,rfl⟩
  have h1:SlR inR ([b4]++M) w4 iv y.tx.ins:=by subst hy hiv;exact SlR.nil _ _
  have h2:SlR gF ([b4]++M) w4 ov y.tx.outs:=by subst hy hov;exact SlR.nil _ _
  have h3:fN y.tx.ver∧fN y.tx.lock∧rT y.fee∧rT y.size:=by subst hy;exact ⟨bLu,bLu,bK0,bK0⟩
  have hcq:cq=bE y iv ov:=by rw [←hq,hiv,hov]
  rw [hcq]
  clear hy hiv hov hq hcq
  refine goR ?_
  refine zE (fun _=>rfl) rfl rfl (by show (bE y iv ov).all _=true;simp [bE,h1.one,h2.one];exact ⟨rfl,rfl,rfl,rfl,rfl⟩) (fun b6 w6 x6 a6 (r6:Row w6 ⟨b6,0,none⟩ (bE y iv ov)) hb6=>?_)
  have l6:=a6.lt
  have s4:=x4.size
  have s6:=x6.size
  have hmem:∀b∈ [b6]++([b4]++M),b∈ [b4]++M∨w4.heap.size≤b:=aAq (fun b hb=>by simp at hb;omega)
  have h16:SlR inR ([b6]++([b4]++M)) w6 iv y.tx.ins:=h1.step x6 (by simp) hmem
  have h26:SlR gF ([b6]++([b4]++M)) w6 ov y.tx.outs:=h2.step x6 (by simp) hmem
  have hM6:∀b∈ [b6]++([b4]++M),b<w6.heap.size:=fun b hb=>by
   simp only [List.mem_append,List.mem_singleton] at hb
   rcases hb with h|h|h
   ·omega
   ·omega
   ·have:=hlt b h;omega
  refine goR ?_
  refine zC rfl (vU (M:= [b6]++([b4]++M)) (cs:=aK y.tx iv ov) (t:=y.tx) _ ⟨iv,ov,rfl,h16,h26,h3.1,h3.2.1⟩ hsm hM6) ?_
  rintro _ w7 ⟨cs7,rfl,⟨iv7,ov7,rfl,o1,o2,o3⟩,x7⟩
  refine goR ?_
  have g1:=o1.base
  have g2:=o2.base
  have e1:=o1.one
  have e2:=o2.one
  have s7:=x7.size
  refine sO (o:=0) (b:=b6) (cur:=bE y iv ov) (vs:=aK y.tx iv7 ov7) rfl rfl rfl (gQ (by simp [aK,e1,e2];exact ⟨rfl,rfl⟩)) (At.ext x7 a6) (Nat.le_of_ble_eq_true rfl) (fun w8 c8 a8=>?_)
  have a8:At w8 b6 (.cells (bE y iv7 ov7).toArray T.api_Entry (0,0)):=a8
  have r8:Row w8 ⟨b6,0,none⟩ (bE y iv7 ov7):=Row.of_at a8
  have x8:Unit→Ext w w8:=fun _=>(Ext.chg ((x4.trans x6).trans x7) c8).mono (by intro q hq;simp at hq;right;omega)
  have s8:=c8.size
  have a48:=At.chg c8 (At.ext x7 (At.ext x6 a4)) (by simp;omega)
  have h61:b6∉aC iv7:=fun h=>by have:=g1 _ h;omega
  have h62:b6∉aC ov7:=fun h=>by have:=g2 _ h;omega
  have p1:=o1.step (M':= [b4]++M) c8 (by intro q hq;simp at hq;subst hq;exact ⟨h61,.inl (by simp)⟩) (fun _ h=>.inl (List.mem_append_right _ h))
  have p2:=o2.step (M':= [b4]++M) c8 (by intro q hq;simp at hq;subst hq;exact ⟨h62,.inl (by simp)⟩) (fun _ h=>.inl (List.mem_append_right _ h))
  clear c8 x7 x6
  refine goR ?_
  refine aW (w0:=w) (vs:=bE y iv7 ov7) (x8 ()) (by omega) a48 rfl rfl rfl rfl (by simp [bE,e1,e2];exact ⟨rfl,rfl,rfl,rfl,rfl⟩) (fun w9 x9 c9 a9 r9=>?_)
  refine goR ?_
  have h41:b4∉aC iv7:=fun h=>by have:=g1 _ h;omega
  have h42:b4∉aC ov7:=fun h=>by have:=g2 _ h;omega
  have q1:=p1.step (M':=M) c9 (by intro q hq;simp at hq;subst hq;exact ⟨h41,.inl (by simp)⟩) (fun _ h=>.inl (List.mem_append_right _ h))
  have q2:=p2.step (M':=M) c9 (by intro q hq;simp at hq;subst hq;exact ⟨h42,.inl (by simp)⟩) (fun _ h=>.inl (List.mem_append_right _ h))
  exact aA (iY (bA r9 rfl rfl) bI) ⟨_,rfl,⟨iv7,ov7,rfl,q1.lower (by omega),q2.lower (by omega),h3⟩,x9⟩
end
section
open Go Go.K
attribute [local irreducible] aH aM aY KOp.wp K.Spec u32 leS vnS str aP cM bK idT aQ aG aN idN xL bG bQ spends
abbrev spE (l:List Ent) (p:Pt):Option Ent:=l.find? fun x=>spends x p
abbrev aEn (l:List Ent) (p:Pt):ByteArray:=((spE l p).map (·.id)).getD ⟨#[]⟩
theorem aGw {g:Nat} {M:List Nat} {l:List Ent} (p:Pt) (w:World) (hG:GrR w g M l):K.Spec Tryz.prog F.graph_Graph_Spender [.pointer (some ⟨g,0,none⟩),.agg p.cs.toArray] w fun r w'=>
  r=.tuple #[.string (aEn l p),.bool (spE l p).isSome]∧Ext w w':=by
 obtain ⟨b1,vo,b2,m,sp,hP⟩:=hG
 have rg:Row w ⟨g,0,none⟩ [.map (some b1),vo,.map (some b2)]:=Row.of_at hP.at_
 have hinv:=hP.inv
 refine pA rfl ?_
 unfold jN
 refine oy ?_
 repeat' (first|(first|refine go2 ?_|fail)|refine zD rfl rfl (fun bp wp xp ap (rp:Row wp ⟨bp,0,none⟩ p.cs) hp0=>?_)|refine mV (E:=ptK) (fv:=Value.string) (k:=p) rfl rfl (hP.pts.ext (by exact fx)) rfl rfl (fun y hy=>?_) (fun hn=>?_))
 ·rw [hinv.spt] at hy
  obtain ⟨e,he,rfl⟩:=Option.map_eq_some_iff.1 hy
  have e1:aEn l p=e.id:=by unfold aEn spE;rw [he];rfl
  have e2:(spE l p).isSome=true:=by unfold spE;rw [he];rfl
  rw [e1,e2]
  exact aA rfl ⟨rfl,by exact fx⟩
 ·rw [hinv.spt,Option.map_eq_none_iff] at hn
  have e1:aEn l p=⟨#[]⟩:=by unfold aEn spE;rw [hn];rfl
  have e2:(spE l p).isSome=false:=by unfold spE;rw [hn];rfl
  rw [e1,e2]
  exact aA rfl ⟨rfl,by exact fx⟩
abbrev fH (l:List Ent) (p:Pt):Bool:=iM l p.s&&decide (p.i<((dI l p.s).tx.outs.length:Int))
theorem aIy {g:Nat} {M:List Nat} {l:List Ent} (p:Pt) (hp:fN p.i) (w:World) (hG:GrR w g M l) (hM:∀b∈M,b<w.heap.size):K.Spec Tryz.prog F.graph_Graph_Out [.pointer (some ⟨g,0,none⟩),.agg p.cs.toArray] w fun r w'=>
  ∃o:TOut,r=.tuple #[.agg (gI o).toArray,.bool (fH l p)]∧(fH l p=true→(dI l p.s).tx.outs[p.i.toNat]? =some o)∧Ext w w':=by
 have hp9:0≤p.i∧p.i<4294967296:=hp
 refine aI1 rfl ?_
 unfold uQ
 refine oy ?_
 repeat' (first|refine aL (d:=some 20) (.int .i64 p.i) rfl (congrArg (fun n=>some (Value.int .i64 n)) (bO0 hp)) ?_|(refine aR (d:=some 33) (E:=gF) (M:= []) rfl (n:=p.i.toNat) (congrArg (Value.int .u32) (by unfold fN at hp;omega)) (l:=(dI l p.s).tx.outs) ((o26.sub (M':= []) (by simp)).sl (by simp)) rfl (by omega) (fun ad cs r7 he=>?_);obtain ⟨rfl,hv7⟩:=he)|(first|refine go2 ?_|fail)|refine zD rfl rfl (fun bp wp xp ap (rp:Row wp ⟨bp,0,none⟩ p.cs) hp0=>?_)|refine zK rfl (fun h=>?_) (fun h=>?_)|refine zL rfl (fun h=>?_) (fun h=>?_)|refine zM rfl (fun h=>?_) (fun h=>?_)|refine zH (d:=some 4) (fun b4 w4 x4 a4 hb4=>?_)|(refine zC rfl (nS (M:=M) p.s _ (hG.ext (by exact fx)) (fun b hb=>nLt (hM b hb) (Ext.size (by exact fx)))) ?_;rintro _ w5 ⟨ds,rfl,⟨iv,ov,rfl,o1,o2,o3⟩,x5⟩;have e1:=o1.one;have e2:=o2.one)|(refine zE (d':=6) (fun _=>rfl) rfl rfl (by show (bE (dI l p.s) iv ov).all _=true;simp [bE,e1,e2];exact ⟨rfl,rfl,rfl,rfl,rfl⟩) (fun b6 w6 x6 a6 (r6:Row w6 ⟨b6,0,none⟩ (bE (dI l p.s) iv ov)) hb6=>?_);have o26:=o2.ext x6)|refine zG (E:=gF) (M:= []) (l:=(dI l p.s).tx.outs) rfl ((o26.sub (M':= []) (by simp)).sl (by simp)) ?_|refine aZ (d:=some 27) (cs:=gI ⟨0,⟨#[]⟩⟩) rfl ?_)
 ·have hh:iM l p.s=false:=by simpa using h
  have e:fH l p=false:=by unfold fH;rw [hh];rfl
  rw [e]
  refine aW (w0:=wp) (vs:=gI ⟨0,⟨#[]⟩⟩) (by exact fx) hb4 (by exact atx) rfl rfl rfl rfl rfl (fun w9 x9 c9 a9 r9=>?_)
  refine goR ?_
  exact aA (iY (bA r9 rfl rfl) bI) ⟨⟨0,⟨#[]⟩⟩,rfl,(fun hf=>by cases hf),xp.trans x9⟩
 ·have e:fH l p=false:=by unfold fH;rw [dFa (by omega),Bool.and_false]
  rw [e]
  refine aW (w0:=wp) (vs:=gI ⟨0,⟨#[]⟩⟩) (by exact fx) hb4 (by exact atx) rfl rfl rfl rfl rfl (fun w9 x9 c9 a9 r9=>?_)
  refine goR ?_
  exact aA (iY (bA r9 rfl rfl) bI) ⟨⟨0,⟨#[]⟩⟩,rfl,(fun hf=>by cases hf),xp.trans x9⟩
 ·have hh:iM l p.s=true:=by simpa using ‹(!iM l p.s)=false›
  have e:fH l p=true:=by unfold fH;rw [hh,dTr (by omega)];rfl
  rw [e]
  have hil:p.i.toNat<(dI l p.s).tx.outs.length:=by omega
  refine aW (w0:=wp) (vs:=gI (dI l p.s).tx.outs[p.i.toNat]) (by exact fx) hb4 (by exact atx) rfl rfl rfl rfl rfl (fun w9 x9 c9 a9 r9=>?_)
  refine goR ?_
  exact aA (iY (bA r9 rfl rfl) bI) ⟨_,rfl,fun _=>List.getElem?_eq_getElem hil,xp.trans x9⟩
theorem bFd {w:World} {g:Nat} {M:List Nat} {l:List Ent} (hG:GrR w g M l) {x:Ent} (hx:x∈l):dI l x.id=x∧iM l x.id=true:=by
 cases h:l.find? fun y=>decide (y.id=x.id) with
 |none=>exact absurd (List.find?_eq_none.1 h x hx) (by simp)
 |some y=>
  obtain ⟨e1,e2,e3,e4⟩:=aI4 h
  refine ⟨?_,e1⟩
  rw [e2]
  have hn:=hG.nodup
  clear h e1 e2 hG
  induction l with
  |nil=>simp at hx
  |cons z l ih=>
   rw [List.map_cons,List.nodup_cons] at hn
   rcases List.mem_cons.1 hx with h1|h1
   ·rcases List.mem_cons.1 e3 with h2|h2
    ·rw [h1,h2]
    ·exact absurd (List.mem_map.2 ⟨y,h2,by rw [e4,h1]⟩) hn.1
   ·rcases List.mem_cons.1 e3 with h2|h2
    ·exact absurd (List.mem_map.2 ⟨x,h1,by rw [←e4,h2]⟩) hn.1
    ·exact ih h1 h2 hn.2
def bHg (B:Nat):R Ent where
 k:=7
 pos:=by decide
 ag:=true
 rel:=fun M w cs x=>∃iv ov,cs=bE x iv ov∧bH inR T.api_In B M w iv x.tx.ins∧bH gF T.api_Out B M w ov x.tx.outs∧(fN x.tx.ver∧fN x.tx.lock∧rT x.fee∧rT x.size)∧∀b∈M,b∉aC iv∧b∉aC ov
 len:=fun ⟨_,_,h,_⟩=>by rw [h];rfl
 one:=fun ⟨iv,ov,h,hi,ho,_⟩ v hv=>by
  have h1:=hi.one
  have h2:=ho.one
  subst h;simp [bE] at hv;rcases hv with rfl|rfl|rfl|rfl|rfl|rfl|rfl<;>first|exact h1|exact h2|rfl
 step:=fun {M M' L w w' _ _} ⟨iv,ov,h,hi,ho,h2,hd⟩ c hL hM=>by
  have k1:∀b∈L,(b∉aC iv∧b∉aC ov)∧(b∈M∨w.heap.size≤b):=fun b hb=>⟨by
   rcases hL b hb with h|h
   ·exact hd b h
   ·exact ⟨fun q=>by have:=hi.lt b q;omega,fun q=>by have:=ho.lt b q;omega⟩,hL b hb⟩
  refine ⟨iv,ov,h,hi.step c (fun b hb=>⟨(k1 b hb).1.1,(k1 b hb).2⟩) hM,ho.step c (fun b hb=>⟨(k1 b hb).1.2,(k1 b hb).2⟩) hM,h2,fun b hb=>?_⟩
  rcases hM b hb with h|h
  ·exact hd b h
  ·exact ⟨fun q=>by have:=hi.lt b q;omega,fun q=>by have:=ho.lt b q;omega⟩
theorem bHg.r {B:Nat} {M:List Nat} {w:World} {cs:List Value} {x:Ent} (h:(bHg B).rel M w cs x):eD.rel M w cs x:=by
 obtain ⟨iv,ov,e,h1,h2,h3,hd⟩:=h
 exact ⟨iv,ov,e,h1.sl fun b hb=>(hd b hb).1,h2.sl fun b hb=>(hd b hb).2,h3⟩
set_option maxHeartbeats 1000000 in
theorem bOo {g:Nat} {M:List Nat} {l:List Ent} (w:World) (hG:GrR w g M l) (hlt:∀b∈M,b<w.heap.size) (hn:l.length≤100000):K.Spec Tryz.prog F.graph_Graph_All [.pointer (some ⟨g,0,none⟩)] w fun r w'=>bH (bHg w.heap.size) T.api_Entry w.heap.size M w' r l∧Ext w w':=by
 have hG0:=hG
 obtain ⟨b1,vo,b2,m,sp,hP⟩:=hG
 have rg:Row w ⟨g,0,none⟩ [.map (some b1),vo,.map (some b2)]:=Row.of_at hP.at_
 have hord:=hP.ord
 have hml:(l.map (·.id)).length=l.length:=by simp
 refine vF rfl ?_
 unfold nK
 refine oy ?_
 repeat' (first|(first|refine go2 ?_|fail)|refine zL rfl (fun h=>?_) (fun h=>?_)|(refine bL rfl (SlE.ext (w:=w) (by exact fx) hord) ?_;rw [hml])|(refine aJ (fun (p:Nat × Value) w'=>Ext w w'∧p.1≤l.length∧bH (bHg w.heap.size) T.api_Entry w.heap.size M w' p.2 (l.take p.1)) (fun p=> [(0,.pointer (some ⟨g,0,none⟩)),(3,p.2),(13,vo),(14,.int .i64 (l.length:Nat)),(15,.int .i64 p.1)]) (fun p=>l.length - p.1) (0,.slice none 0 0) ⟨rfl,rfl,rfl,rfl,rfl,trivial⟩ ⟨Ext.refl _,by simp,bH.nil _ _ _ _⟩ ?_;rintro ⟨i,vr⟩ ρ w3 ⟨x3,hi,ho⟩;simp only at hi ho;dsimp only))
 ·have hil:i<l.length:=by omega
  refine aT (d:=some 17) (E:=bB) rfl rfl (n:=i) (l:=l.map (fun x:Ent=>x.id)) (SlE.ext (w:=w) x3 hord) rfl (by omega) (fun ad r4=>?_)
  have r4:Row w3 ad [Value.string l[i].id]:=by simpa [bB] using r4
  have hN:∀b∈aC vr++M,b∈M∨w.heap.size≤b:=aAq ho.base
  have hN2:∀b∈aC vr++M,b<w3.heap.size:=fun b hb=>by
   rcases List.mem_append.1 hb with h|h
   ·exact ho.lt b h
   ·exact nLt (hlt b h) x3.size
  repeat' (first|(first|refine go2 ?_|fail)|(refine zC rfl (nS (M:=aC vr++M) l[i].id _ (hG0.more x3 hN) hN2) ?_;rintro _ w5 ⟨ds,rfl,he0,x5⟩;have hge:=(bFd hG0 (gMe hil)).1;rw [hge] at he0;have hone:=eD.one (he0.rel hN2);obtain ⟨iv,ov,rfl,g1,g2,g3⟩:=he0)|refine zE (d':=6) (fun _=>rfl) rfl rfl (by rw [List.all_eq_true];exact hone) (fun b6 w6 x6 a6 (r6:Row w6 ⟨b6,0,none⟩ (bE l[i] iv ov)) hb6=>?_)|refine zI (cs:=bE l[i] iv ov) rfl (fun b w7 x7 a7 hb=>?_)|(refine eM (E:=bHg w.heap.size) (M:=M) (v:=vr) (cs:=bE l[i] iv ov) (a:=l[i]) rfl rfl (ho.ext (by exact fx)) (Ext.size (w:=w) (by exact fx)) rfl rfl a7 ⟨iv,ov,rfl,(g1.ext (by exact fx)).lower x3.size,(g2.ext (by exact fx)).lower x3.size,g3,fun b hb=>⟨fun h=>absurd (g1.base b h) (by have:=hN2 b hb;omega),fun h=>absurd (g2.base b h) (by have:=hN2 b hb;omega)⟩⟩ (by have:(l.take i).length≤l.length:=(by rw [List.length_take];omega);omega) (fun v8 w8 o8 c8 hb8=>?_)))
  exact ⟨(i+1,v8),⟨rfl,rfl,rfl,rfl,rfl,trivial⟩,⟨(Ext.chg (w:=w) (by exact fx) c8).mono (fun b hb=>.inr (ho.base b hb)),by simp;omega,by show bH _ _ _ _ _ _ (l.take (i+1));rw [List.take_succ_eq_append_getElem hil];exact o8⟩,by simp;omega⟩
 ·rw [tLe (by omega)] at ho
  exact aA rfl ⟨ho,x3⟩
theorem sZ {g:Nat} {M:List Nat} {l:List Ent} (w:World) (hG:GrR w g M l) (hlt:∀b∈M,b<w.heap.size) (hn:l.length≤100000):K.Spec Tryz.prog F.graph_Graph_All [.pointer (some ⟨g,0,none⟩)] w fun r w'=>bH eD T.api_Entry w.heap.size M w' r l∧Ext w w':=by
 refine dO (bOo w hG hlt hn) fun r w' ⟨⟨css,h1,h2⟩,x⟩=>⟨⟨css,h1,h2.mono fun _ _ h=>bHg.r h⟩,x⟩
end
section
open Go Go.K
attribute [local irreducible] aH aM aY KOp.wp K.Spec u32 leS vnS str aP cM bK idT aQ aG aN idN xL bG bQ spends
def dX (l:List Ent) (ins:List TIn):List ByteArray:=(ins.filter fun i=>fH l i.p).map fun i=>i.p.s
def jL (l:List Ent) (id:ByteArray):Nat→List ByteArray
 |0=> []
 |n+1=>jL l id n++(match spE l ⟨id,(n:Nat)⟩ with|some e=> [e.id]|none=> [])
theorem wZ (l:List Ent) (id:ByteArray):∀n,(jL l id n).length≤n
 |0=>by simp [jL]
 |n+1=>by
  have:=wZ l id n
  unfold jL
  rw [List.length_append]
  split<;>simp<;>omega
theorem rL (l:List Ent) (ins:List TIn):(dX l ins).length≤ins.length:=by
 unfold dX;rw [List.length_map];exact List.length_filter_le _ _
theorem aEv {l:List Ent} {ins:List TIn} {i:Nat} (h:i<ins.length):dX l (ins.take (i+1))=dX l (ins.take i)++(if fH l ins[i].p then [ins[i].p.s] else []):=by
 rw [List.take_succ_eq_append_getElem h]
 unfold dX
 rw [List.filter_append,List.map_append]
 congr 1
 by_cases h2:fH l ins[i].p=true
 ·rw [if_pos h2,List.filter_cons_of_pos (p:=fun i:TIn=>fH l i.p) h2];rfl
 ·rw [if_neg h2,List.filter_cons_of_neg (p:=fun i:TIn=>fH l i.p) h2];rfl
theorem aIi {g : Nat} {M N : List Nat} {l : List Ent} {cs : List Value} {t : Tx} (w : World) (hG : GrR w g M l) (hM : ∀ b ∈ M, b < w.heap.size) (ht : txR.rel N w cs t) (hs : t.ins.length ≤ 100000) : K.Spec Tryz.prog F.graph_Graph_parents [.pointer (some ⟨g, 0, none⟩), .agg cs.toArray] w fun r w' =>
    Own bB T.string w.heap.size w' r (dX l t.ins) ∧ Ext w w' := by
  obtain ⟨iv, ov, rfl, h1, h2, h3⟩ := ht
  refine aBt rfl ?_
  unfold pH
  refine oy ?_
  repeat' (first|(first|refine go2 ?_|fail)|refine zD rfl rfl (fun bp wp xp ap (rp : Row wp ⟨bp, 0, none⟩ (aK t iv ov)) hp0=>?_)|refine zL rfl (fun h => ?_) (fun h => ?_)|refine zM rfl (fun h => ?_) (fun h => ?_)|refine zG (E := inR) (M := N) (l := t.ins) rfl (SlR.ext h1 (by exact fx)) ?_|(refine aJ (fun (p : Nat × Value) w' => Ext w w' ∧ p.1 ≤ t.ins.length ∧ Own bB T.string w.heap.size w' p.2 (dX l (t.ins.take p.1))) (fun p => [(0, .pointer (some ⟨g, 0, none⟩)), (5, p.2), (11, iv), (12, .int .i64 (t.ins.length : Nat)), (13, .int .i64 p.1)]) (fun p => t.ins.length - p.1) (0, .slice none 0 0) ⟨rfl, rfl, rfl, rfl, rfl, trivial⟩ ⟨by exact fx, by simp, Own.nil _ _ _⟩ ?_; clear rp ap; rintro ⟨i, vr⟩ ρ w3 ⟨x3, hi, ho⟩; simp only at hi ho; dsimp only)|(refine aR (d := some 15) (E := inR) (M := N) rfl rfl (n := i) (l := t.ins) (SlR.ext h1 x3) rfl (by omega) (fun ad cs r4 he => ?_); obtain ⟨wv, rfl, hw, hp5, hp6⟩ := he; obtain ⟨bs1, cp1, rfl⟩ := hw.form; have hil : i < t.ins.length := (by omega))|refine zE (d' := 7) (fun _=>rfl) rfl rfl rfl (fun b7 w7 x7 a7 (r7 : Row w7 ⟨b7, 0, none⟩ (fS t.ins[i] (.slice bs1 t.ins[i].wit.length cp1))) hb7=>?_)|(refine zC rfl (aIy (M := M) t.ins[i].p hp5 _ (hG.ext (Ext.trans x3 (by exact fx))) (fun b hb => nLt (hM b hb) (Ext.size (by exact fx)))) ?_; rintro _ w8 ⟨o, rfl, ho8, x8⟩)|refine zE (d' := 8) (fun _=>rfl) rfl rfl rfl (fun b9 w9 x9 a9 r9 hb9=>?_)|refine zI (d := some 29) (cs := [.string t.ins[i].p.s]) rfl (fun b w10 x10 a10 hb => ?_)|refine bZ (E := bB) (v := vr) (l2 := [t.ins[i].p.s]) rfl (ho.ext (by exact fx)) (Ext.size (w := w) (by exact fx)) rfl rfl (dR a10 rfl) rfl rfl (by have := rL l (t.ins.take i); have : (t.ins.take i).length ≤ t.ins.length := (by rw [List.length_take]; omega); simp only [List.length_cons, List.length_nil]; omega) (fun v11 w11 o11 c11 => ?_))
  all_goals first
    | exact ⟨(i + 1, v11), ⟨rfl, rfl, rfl, rfl, rfl, trivial⟩, ⟨(Ext.chg (w := w) (by exact fx) c11).mono (fun b hb => .inr (ho.base b (by simpa using hb))), by simp; omega, by show Own _ _ _ _ _ (dX l (t.ins.take (i + 1))); rw [aEv hil, if_pos h]; exact o11⟩, by simp; omega⟩
    | exact ⟨(i + 1, vr), ⟨rfl, rfl, rfl, rfl, rfl, trivial⟩, ⟨by exact fx, by simp; omega, by show Own _ _ _ _ _ (dX l (t.ins.take (i + 1))); rw [aEv hil, if_neg (by rw [h]; decide), List.append_nil]; exact Own.ext (w := w3) (by exact fx) ho⟩, by simp; omega⟩
    | (rw [tLe (by omega)] at ho
       exact aA rfl ⟨ho, by exact fx⟩)
    | trace_state
theorem bOj {n:Nat} (h:n<4294967296):IntKind.u32.wrap (n:Nat)=(n:Nat):=by
 have e:IntKind.u32.wrap (n:Nat)=(n:Nat)%4294967296:=rfl
 rw [e];omega
theorem aQ5 {g : Nat} {M N : List Nat} {l : List Ent} {cs : List Value} {x : Ent} (w : World) (hG : GrR w g M l) (hx : eD.rel N w cs x) (hs : x.tx.outs.length ≤ 100000) : K.Spec Tryz.prog F.graph_Graph_children [.pointer (some ⟨g, 0, none⟩), .agg cs.toArray] w fun r w' =>
    Own bB T.string w.heap.size w' r (jL l x.id x.tx.outs.length) ∧ Ext w w' := by
  obtain ⟨iv, ov, rfl, h1, h2, h3⟩ := hx
  refine aAd rfl ?_
  unfold nQ
  refine oy ?_
  repeat' (first|refine aL (d := some 21) (.int .u32 (i : Nat)) rfl (congrArg (fun n => some (Value.int .u32 n)) (bOj (by omega))) ?_|refine aZ (d := some 22) (cs := (⟨x.id, (i : Nat)⟩ : Pt).cs) rfl ?_|(first|refine go2 ?_|fail)|refine zD rfl rfl (fun bp wp xp ap (rp : Row wp ⟨bp, 0, none⟩ (bE x iv ov)) hp0=>?_)|refine zL rfl (fun h => ?_) (fun h => ?_)|refine zM rfl (fun h => ?_) (fun h => ?_)|refine zG (E := gF) (M := N) (l := x.tx.outs) rfl (SlR.ext h2 (by exact fx)) ?_|(refine aJ (fun (p : Nat × Value) w' => Ext wp w' ∧ p.1 ≤ x.tx.outs.length ∧ Own bB T.string wp.heap.size w' p.2 (jL l x.id p.1)) (fun p => [(0, .pointer (some ⟨g, 0, none⟩)), (3, .pointer (some ⟨bp, 0, none⟩)), (5, p.2), (12, .int .i64 (x.tx.outs.length : Nat)), (13, .int .i64 p.1)]) (fun p => x.tx.outs.length - p.1) (0, .slice none 0 0) ⟨rfl, rfl, rfl, rfl, rfl, trivial⟩ ⟨by exact fx, by simp, Own.nil _ _ _⟩ ?_; rintro ⟨i, vr⟩ ρ w3 ⟨x3, hi, ho⟩; simp only at hi ho; dsimp only; have hlen := wZ l x.id i)|(refine zC rfl (aGw (M := M) ⟨x.id, (i : Nat)⟩ _ (hG.ext (by exact fx))) ?_; rintro _ w8 ⟨rfl, x8⟩)|refine zI (d := some 29) (cs := [.string (aEn l ⟨x.id, (i : Nat)⟩)]) rfl (fun b w10 x10 a10 hb => ?_)|refine bZ (E := bB) (v := vr) (l2 := [aEn l ⟨x.id, (i : Nat)⟩]) rfl (ho.ext (by exact fx)) (Ext.size (w := wp) (by exact fx)) rfl rfl (dR a10 rfl) rfl rfl (by simp only [List.length_cons, List.length_nil]; omega) (fun v11 w11 o11 c11 => ?_))
  all_goals first
    | (obtain ⟨e, he⟩ := Option.isSome_iff_exists.1 h
       have e1 : aEn l ⟨x.id, (i : Nat)⟩ = e.id := by unfold aEn; rw [he]; rfl
       rw [e1] at o11
       exact ⟨(i + 1, v11), ⟨rfl, rfl, rfl, rfl, rfl, trivial⟩, ⟨(Ext.chg (w := wp) (by exact fx) c11).mono (fun b hb => .inr (ho.base b (by simpa using hb))), by simp; omega, by show Own _ _ _ _ _ (jL l x.id (i + 1)); unfold jL; rw [he]; exact o11⟩, by simp; omega⟩)
    | (have he : spE l ⟨x.id, (i : Nat)⟩ = none := by simpa using h
       exact ⟨(i + 1, vr), ⟨rfl, rfl, rfl, rfl, rfl, trivial⟩, ⟨by exact fx, by simp; omega, by show Own _ _ _ _ _ (jL l x.id (i + 1)); unfold jL; rw [he, List.append_nil]; exact Own.ext (w := w3) (by exact fx) ho⟩, by simp; omega⟩)
    | (have ei : i = x.tx.outs.length := by omega
       subst ei
       exact aA rfl ⟨ho.lower xp.size, xp.trans x3⟩)
    | trace_state
end
section
open Go Go.K
attribute [local irreducible] aH aM aY KOp.wp K.Spec u32 leS vnS str aP cM bK idT aQ aG aN idN xL bG bQ spends cB cL
section
variable {P:Program} {d:Option Tmp} {r:KR} {K:Env→World→Prop} {ρ:Env} {w:World}
theorem aWn {α:Type} {E:Enc α} {size:Nat} {x a:Operand} {v:Value} {l:List α} {ka:IntKind} {lo:Nat} (hx:ev ρ x=v) (ha:ev ρ a=.int ka (lo:Nat)) (hs:SlE E w v l) (h1:lo≤l.length) (hk:size=E.k)
  (k:∀v',SlE E w v' (l.drop lo)→aH P r K (put ρ d v') w):aH P (.cons ⟨d,.sliceSl size x (some a) none,none⟩ r) K ρ w:=by
 subst hk
 obtain ⟨hl,base,cap,rfl,hc,hr⟩:=hs
 have h2:=SlE.cut (E:=E) (lo:=lo) (hi:=l.length) ⟨hl,base,cap,rfl,hc,hr⟩ h1 (Nat.le_refl _) (cap - lo) (by omega)
 rw [tLe (by rw [List.length_drop];omega)] at h2
 refine cS rfl (v:=.slice (if cap=lo then base else base.map fun ad:Addr=>ad.add (lo*E.k)) (l.length - lo) (cap - lo)) ?_ (k _ h2)
 simp only [KOp.fix,hx,ha,Option.bind_some,Option.map_some]
 rw [if_pos (by omega)]
 simp only [Option.bind_some,Int.toNat_natCast]
 simp
end
theorem SlE.offmap {α:Type} {F:Enc α} {w w':World} {v:Value} {l:List α} {b ck:Nat} {es:Array MapEntry} (h:SlE F w v l) (hm:At w b (.map es ck)) (c:Chg [b] w w'):SlE F w' v l:=by
 by_cases hp:0<l.length
 ·refine h.chg c (fun a m k e hmem=>?_)
  simp only [List.mem_singleton] at hmem
  obtain ⟨h1,base,cap,hv,hc,h2⟩:=h
  have hpos:0<(F.flat l).length:=by rw [F.flat_length];exact Nat.mul_pos hp F.pos
  obtain ⟨a',ha,hr⟩:=h2 hpos
  rw [e,ha] at hv
  injection hv with hv1
  injection hv1 with hv2
  subst hv2
  have h3:=hr 0 _ (List.getElem?_eq_getElem hpos)
  unfold World.cell? at h3
  rw [add_block,hmem,show w.heap[b]? =some (.map es ck) from hm] at h3
  simp at h3
 ·have hl:l= []:=List.length_eq_zero_iff.1 (by omega)
  subst hl
  exact h.anyw
def bOs (fv:Value) (l:List Ent) (M:List Nat) (w:World) (nxt:Ent→List ByteArray):Prop:=
 ∃f first cap,fv=.func (.func f) first cap∧bW Tryz.prog f=true∧∀x∈l,∀w' cs,Ext w w'→eD.rel M w' cs x→K.Spec Tryz.prog f (first.toList++ [.agg cs.toArray]++cap.toList) w' fun r w''=>Own bB T.string w'.heap.size w'' r (nxt x)∧Ext w' w''
theorem bGp:bW Tryz.prog F.graph_Graph_reach_1=true:=by kernel_rfl
theorem aY0 {b7 bm:Nat} {met:List (ByteArray × Nat)} (id:ByteArray) (w:World) (h7:At w b7 (.cells [.map (some bm)].toArray T.map_string_int (0,0))) (hm:dB sK (fun n:Nat=>Value.int .i64 (n:Nat)) w bm met) (hp:∀s c,aS met s=some c→1≤c):K.Spec Tryz.prog F.graph_Graph_reach_1 [.string id,.pointer (some ⟨b7,0,none⟩)] w fun r w'=>r=.bool (!qN met id)∧w'=w:=by
 have r7:Row w ⟨b7,0,none⟩ [.map (some bm)]:=Row.of_at h7
 refine aBo rfl ?_
 unfold pE
 refine oy ?_
 repeat' (first|(first|refine go2 ?_|fail)|refine eQ (E:=sK) (fv:=fun n:Nat=>Value.int .i64 (n:Nat)) (k:=id) rfl rfl hm rfl rfl (fun c hc=>?_) (fun hn=>?_))
 ·have h1:=hp _ _ hc
  have e:qN met id=true:=by unfold qN;rw [hc];rfl
  rw [e]
  exact aA rfl ⟨congrArg Value.bool (dFa (by omega)),rfl⟩
 ·have e:qN met id=false:=by unfold qN;rw [hn];rfl
  rw [e]
  exact aA rfl ⟨rfl,rfl⟩
set_option maxHeartbeats 2000000 in
theorem aQa {g:Nat} {M:List Nat} {l:List Ent} {vf fv:Value} {frm:List ByteArray} {nxt:Ent→List ByteArray} (w:World) (hG:GrR w g M l) (hlt:∀b∈M,b<w.heap.size) (hF:SlE bB w vf frm) (hN:bOs fv l M w nxt) (hn:l.length≤1000) (hfl:frm.length≤1000)
  (hin0:∀s∈frm,∃j,j<l.length∧(dM l j).id=s) (hin:∀i,i<l.length→∀s∈nxt (dM l i),∃j,j<l.length∧(dM l j).id=s) (hnl:∀x∈l,(nxt x).length≤1000):
  K.Spec Tryz.prog F.graph_Graph_reach [.pointer (some ⟨g,0,none⟩),vf,fv] w fun r w'=>Own bB T.string w.heap.size w' r (aO l (cB l frm nxt))∧Ext w w':=by
 have hG0:=hG
 have hnd:=hG.nodup
 obtain ⟨b1,vo,b2,m,sp,hP⟩:=hG
 have rg:Row w ⟨g,0,none⟩ [.map (some b1),vo,.map (some b2)]:=Row.of_at hP.at_
 have hinv:=hP.inv
 obtain ⟨f,first,cap,rfl,hfb,hnx⟩:=hN
 have hW0:cL [] nxt l≤1000*l.length:=aYx [] nxt l hnl
 refine aEm rfl ?_
 unfold rN
 refine oy ?_
 repeat' (first|(first|refine go2 ?_|fail)|refine zL rfl (fun h=>?_) (fun h=>?_)|(refine iX (E:=sK) (fv:=fun n:Nat=>Value.int .i64 (n:Nat)) (fun bm w1 x1 m1 hb1=>?_);have lm:=m1.lt)|(refine zH (fun b7 w2 x2 a2 hb2=>?_);have l7:=a2.lt)|refine aD7 (b:=b7) (v:=.map (some bm)) rfl rfl rfl a2 (by decide) (fun w3 c3 a3=>?_)|refine bL rfl hT ?_|refine aJ (fun (p:Value × List ByteArray × List (ByteArray × Nat)) w'=>Ext w w'∧w3.heap.size≤w'.heap.size∧SlE bB w' p.1 p.2.1∧At w' b7 (.cells [.map (some bm)].toArray T.map_string_int (0,0))∧dB sK (fun n:Nat=>Value.int .i64 (n:Nat)) w' bm p.2.2∧BInv l frm nxt p.2.1 p.2.2∧p.2.1.length+cL p.2.2 nxt l≤2000000∧∀s c,aS p.2.2 s=some c→c+(p.2.1.length+cL p.2.2 nxt l)≤2000000) (fun p=> [(0,.pointer (some ⟨g,0,none⟩)),(2,.func (.func f) first cap),(7,.pointer (some ⟨b7,0,none⟩)),(8,p.1)]) (fun p=>p.2.1.length+cL p.2.2 nxt l) (vf,frm, []) ⟨rfl,rfl,rfl,rfl,trivial⟩ ?_ ?_)
 ·have x3:Ext w w3:=((x1.trans x2).chg c3).mono (by intro y hy;simp at hy;have:=x1.size;right;omega)
  exact ⟨x3,Nat.le_refl _,hF.ext x3,a3,(m1.ext x2).chg c3 (by simp;omega),BInv.start hin0,by simp only;omega,fun s c hc=>by simp [aS] at hc⟩
 ·rintro ⟨v,T,met⟩ ρ w4 ⟨x4,s34,hT,q7,qm,hB,hw,hc⟩
  simp only at hT qm hB hw hc
  dsimp only
  have r7:Row w4 ⟨b7,0,none⟩ [.map (some bm)]:=Row.of_at q7
  have s23:=c3.size
  have s12:=x2.size
  clear c3 a3 a2 x1 x2 m1
  repeat' (first|refine zi (fun w5 x5=>?_)|refine zg (fun w5 x5=>?_)|(first|refine go2 ?_|fail)|refine zL rfl (fun h=>?_) (fun h=>?_)|refine bL rfl hT ?_)
  ·obtain ⟨id,T',rfl⟩:∃id T',T=id::T':=by
    cases T with
    |nil=>simp at h
    |cons a b=>exact ⟨a,b,rfl⟩
   have hlenT:(id::T').length=T'.length+1:=rfl
   refine aT rfl rfl (n:=0) (l:=id::T') (hT.ext x5) rfl (by simp) (fun ad r5=>?_)
   have r5:Row w5 ad [Value.string id]:=r5
   have hT5:=hT.ext x5
   have qm5:=qm.ext x5
   have q75:=q7.ext x5
   have r75:=r7.ext x5
   have x05:Unit→Ext w w5:=fun _=>x4.trans x5
   have s45:=x5.size
   clear x5 hT qm q7 r7 x4
   repeat' (first|(first|refine go2 ?_|fail)|refine eQ (d:=some 20) (E:=sK) (fv:=fun n:Nat=>Value.int .i64 (n:Nat)) (k:=id) rfl rfl qm5 rfl rfl (fun c hcc=>have hcc2:=hc id c hcc;?_) (fun hcn=>?_))
   ·have hp1:=hB.pos id c hcc
    refine eY (E:=sK) (fv:=fun n:Nat=>Value.int .i64 (n:Nat)) (k:=id) (v:=c+1) rfl rfl rfl qm5 rfl rfl (fun w6 c6 m6=>?_)
    have lm6:=m6.lt
    have q76:=At.chg c6 q75 (by simp;omega)
    have r76:Row w6 ⟨b7,0,none⟩ [.map (some bm)]:=Row.of_at q76
    have x06:Ext w w6:=(Ext.chg (x05 ()) c6).mono (by intro y hy;simp at hy;right;omega)
    have s6:=c6.size
    have hT6:SlE bB w6 v (id::T'):=by
     obtain ⟨es,ck,hat,_⟩:=qm5
     exact SlE.offmap hT5 hat c6
    clear r5
    repeat' (first|refine zi (fun w7 x7=>?_)|refine zg (fun w7 x7=>?_)|(first|refine go2 ?_|fail)|(refine aT (d:=some 24) rfl rfl (n:=0) (l:=id::T') (hT6.ext x7) rfl (by simp) (fun ad r5=>?_);have r5:Row w7 ad [Value.string id]:=r5)|refine eQ (d:=some 26) (E:=sK) (fv:=fun n:Nat=>Value.int .i64 (n:Nat)) (k:=id) rfl rfl (m6.ext x7) rfl rfl (fun c2 hc2=>?_) (fun hcn=>?_)|refine zL rfl (fun h2=>?_) (fun h2=>?_)|refine aWn (d:=some 15) (E:=bB) (lo:=1) rfl rfl (hT6.ext x7) (by simp) rfl (fun v8 hT8=>?_))
    ·rw [cP,if_pos rfl] at hc2;injection hc2 with hc2;omega
    ·rw [cP,if_pos rfl] at hc2;injection hc2 with hc2
     refine ⟨(v8,T',fV met id (c+1)),⟨rfl,rfl,rfl,rfl,trivial⟩,⟨x06.trans x7,by have:=x7.size;omega,hT8,q76.ext x7,m6.ext x7,hB.again hcc,?_,fun s d hd=>?_⟩,?_⟩
     ·have:=yR (met:=met) (nxt:=nxt) (id:=id) (c:=c+1) l;simp only;omega
     ·have:=yR (met:=met) (nxt:=nxt) (id:=id) (c:=c+1) l
      rw [cP] at hd
      simp only
      split at hd
      ·injection hd with hd;omega
      ·have:=hc s d hd;omega
     ·have:=yR (met:=met) (nxt:=nxt) (id:=id) (c:=c+1) l;simp only;omega
    ·rw [cP,if_pos rfl] at hcn;cases hcn
   ·obtain ⟨i,hi,ei,hsi⟩:=hB.todo id (by simp)
    subst ei
    refine eY (E:=sK) (fv:=fun n:Nat=>Value.int .i64 (n:Nat)) (k:=(dM l i).id) (v:=1) rfl rfl rfl qm5 rfl rfl (fun w6 c6 m6=>?_)
    have lm6:=m6.lt
    have q76:=At.chg c6 q75 (by simp;omega)
    have r76:Row w6 ⟨b7,0,none⟩ [.map (some bm)]:=Row.of_at q76
    have x06:Ext w w6:=(Ext.chg (x05 ()) c6).mono (by intro y hy;simp at hy;right;omega)
    have s6:=c6.size
    have hT6:SlE bB w6 v ((dM l i).id::T'):=by
     obtain ⟨es,ck,hat,_⟩:=qm5
     exact SlE.offmap hT5 hat c6
    clear r5
    repeat' (first|refine zi (fun w7 x7=>?_)|refine zg (fun w7 x7=>?_)|(first|refine go2 ?_|fail)|(refine aT (d:=some 24) rfl rfl (n:=0) (l:=(dM l i).id::T') (hT6.ext x7) rfl (by simp) (fun ad r5=>?_);have r5:Row w7 ad [Value.string (dM l i).id]:=r5)|refine eQ (d:=some 26) (E:=sK) (fv:=fun n:Nat=>Value.int .i64 (n:Nat)) (k:=(dM l i).id) rfl rfl (m6.ext x7) rfl rfl (fun c2 hc2=>have hT7:=hT6.ext x7;have m7:=m6.ext x7;have q77:=q76.ext x7;have x07:Unit→Ext w w7:=fun _=>x06.trans x7;have s67:=x7.size;?_) (fun hcn=>?_)|refine zL rfl (fun h2=>?_) (fun h2=>?_)|(refine aT (d:=some 35) rfl rfl (n:=0) (l:=(dM l i).id::T') (hT7.ext x7) rfl (by simp) (fun ad r5=>?_);have r5:Row w7 ad [Value.string (dM l i).id]:=r5)|refine aZ1 (d:=some 37) (KE:=sK) (F:=eD) (k:=(dM l i).id) rfl rfl (hP.ents.ext ((x07 ()).trans x7)) rfl rfl (fun y cs hy hr=>?_) (fun hn=>?_))
    ·rw [hinv.ent] at hy
     obtain ⟨e1,e2,e3,e4⟩:=aI4 hy
     have hye:y=dM l i:=by
      have h9:=(bFd hG0 (show dM l i∈l by rw [bY hi];exact gMe hi)).1
      rw [e2] at h9;exact h9
     subst hye
     have hnl9:=hnl _ e3
     refine dP rfl hfb rfl (hnx _ e3 _ cs ((x07 ()).trans x7) hr) ?_
     rintro v9 w9 ⟨o9,x9⟩
     obtain ⟨bv,cv,rfl⟩:=hT7.form
     obtain ⟨bu,cu,rfl⟩:=o9.sl.form
     refine zI (d:=some 39) (cs:= [.slice bv _ cv,.slice bu _ cu]) rfl (fun b w10 x10 a10 hb=>?_)
     refine zC rfl (aYh (l1:=(dM l i).id::T') (l2:=nxt (dM l i)) _ a10 ((hT7.ext x7).ext (x9.trans x10)) (o9.sl.ext x10) (by omega)) ?_
     rintro v11 w11 ⟨o11,x11⟩
     repeat' (first|(first|refine go2 ?_|fail)|refine aWn (d:=some 15) (E:=bB) (lo:=1) rfl rfl o11.sl (by simp) rfl (fun v8 hT8=>?_))
     have x711:=(x7.trans (x9.trans x10)).trans x11
     have hwf:=aK7 (nxt:=nxt) (met:=met) (c:=1) e3 (by unfold qN;rw [hcn];rfl)
     have hln:(T'++nxt (dM l i)).length=T'.length+(nxt (dM l i)).length:=List.length_append
     refine ⟨(v8,T'++nxt (dM l i),fV met (dM l i).id 1),⟨rfl,rfl,rfl,rfl,trivial⟩,⟨(x07 ()).trans x711,by have:=x711.size;omega,hT8,q77.ext x711,m7.ext x711,hB.first hnd hi hcn (hin i hi),?_,fun s d hd=>?_⟩,?_⟩
     ·simp only;omega
     ·rw [cP] at hd
      simp only
      split at hd
      ·injection hd with hd;omega
      ·have:=hc s d hd;omega
     ·simp only;omega
    ·rw [hinv.ent] at hn
     exact absurd (List.find?_eq_none.1 hn _ (show dM l i∈l by rw [bY hi];exact gMe hi)) (by simp)
    ·rw [cP,if_pos rfl] at hc2;injection hc2 with hc2;omega
    ·rw [cP,if_pos rfl] at hcn;cases hcn
  ·have hT0:T= []:=List.length_eq_zero_iff.1 (by omega)
   subst hT0
   have hml:(l.map (·.id)).length=l.length:=by simp
   have hord:SlR nM [] w4 vo (l.map (·.id)):=SlE.toR (F:=bB) (ag:=false) (hP.ord.ext x4) (by simp)
   refine zC rfl (uS (M:= []) (v:=vo) (l:=l.map (fun x:Ent=>x.id)) _ hord (by omega) (by simp)) ?_
   rintro v5 w5 ⟨o5,x5⟩
   have o5:=bH.toOwn o5
   have g5:=o5.base
   have lm4:=qm.lt
   have l74:=q7.lt
   have h7v:b7∉aC v5:=fun h=>by have:=g5 _ h;omega
   have hmv:bm∉aC v5:=fun h=>by have:=g5 _ h;omega
   repeat (first|refine go2 ?_|fail)
   refine zC rfl (aO7 (g:=F.graph_Graph_reach_1) (capl:= [.pointer (some ⟨b7,0,none⟩)]) (l:=l.map (fun x:Ent=>x.id)) _ (fun s=>!qN met s) bGp o5 (by omega) (fun W s hW=>aY0 s W (At.chg hW (q7.ext x5) h7v) ((qm.ext x5).chg hW hmv) hB.pos)) ?_
   rintro v6 w6 ⟨o6,c6,hb6⟩
   repeat (first|refine go2 ?_|fail)
   have e:(l.map (·.id)).filter (fun x=>!!qN met x)=aO l (cB l frm nxt):=by
    unfold cB tJ
    refine bCp fun i hi=>?_
    rw [Bool.not_not]
    have:=hB.done i hi hnd
    rw [bY hi] at this
    exact this
   rw [e] at o6
   exact aA rfl ⟨o6.lower x4.size,((x4.trans x5).chg c6).mono (fun b hb=>.inr (nTr x4.size (g5 b hb)))⟩
end
section
open Go Go.K
attribute [local irreducible] aH aM aY KOp.wp K.Spec u32 leS vnS str aP cM bK idT aQ aG aN idN bG cL
theorem GrR.pos {w:World} {g:Nat} {M:List Nat} {l:List Ent} (h:GrR w g M l):∀x∈l,∀i∈x.tx.ins,fN i.p.i:=by
 obtain ⟨b1,vo,b2,m,sp,h⟩:=h
 intro x hx i hi
 obtain ⟨mv,h1,h2⟩:=h.ents
 have hg:aS m x.id=some x:=by
  rw [h.inv.ent]
  obtain ⟨j,hj,rfl⟩:=List.getElem_of_mem hx
  exact aGu h.inv.nodup hj
 obtain ⟨v,e,cs,e2,hr⟩:=(aH8 (r:=fun v y=>∃cs,v=eD.val cs∧eD.rel M w cs y) (k:=x.id) h2).1 x hg
 obtain ⟨iv,ov,e3,g1,g2,g3⟩:=hr
 obtain ⟨css,k1,k2,k3⟩:=g1
 obtain ⟨j,hj,rfl⟩:=List.getElem_of_mem hi
 obtain ⟨wv,k4,k5,k6,k7⟩:=k2.get j (by rw [k2.length];exact hj) hj
 exact k6
theorem aEw {l:List Ent} (hn:(l.map (·.id)).Nodup) {t:Tx} {i:Nat} (hi:i<l.length):named l (dX l t.ins) i=xL t (dM l i):=by
 rw [Bool.eq_iff_iff,pW]
 unfold xL dX
 rw [List.any_eq_true,List.mem_map,bY hi]
 constructor
 ·rintro ⟨x,hx,e⟩
  obtain ⟨h1,h2⟩:=List.mem_filter.1 hx
  refine ⟨x,h1,?_⟩
  unfold fH iM dI at h2
  rw [e,aGu hn hi] at h2
  rw [Bool.and_eq_true] at h2
  rw [Bool.and_eq_true]
  exact ⟨dTr e,h2.2⟩
 ·rintro ⟨x,hx,h2⟩
  rw [Bool.and_eq_true] at h2
  have e:=of_decide_eq_true h2.1
  refine ⟨x,List.mem_filter.2 ⟨hx,?_⟩,e⟩
  unfold fH iM dI
  rw [e,aGu hn hi,Bool.and_eq_true]
  exact ⟨aJp hi (dTr rfl),h2.2⟩
theorem bLe {l:List Ent} (hn:(l.map (·.id)).Nodup) (t:Tx):cB l (dX l t.ins) (fun x=>dX l x.tx.ins)=dC l t:=
 aHh (fun i hi=>aEw hn hi) (fun k i hk hi=>by rw [aJa,aEw hn hi])
theorem aF7 {l:List Ent} {id s:ByteArray}:∀{n:Nat},s∈jL l id n↔∃j,j<n∧∃e,spE l ⟨id,(j:Nat)⟩=some e∧e.id=s
 |0=>by simp [jL]
 |n+1=>by
  unfold jL
  rw [List.mem_append,aF7]
  constructor
  ·rintro (⟨j,h1,h2⟩|h)
   ·exact ⟨j,by omega,h2⟩
   ·cases he:spE l ⟨id,(n:Nat)⟩ with
    |none=>rw [he] at h;simp at h
    |some e=>rw [he] at h;simp at h;exact ⟨n,by omega,e,he,h.symm⟩
  ·rintro ⟨j,h1,e,h2,h3⟩
   by_cases hj:j=n
   ·subst hj
    rw [h2];right;simp [h3]
   ·exact .inl ⟨j,by omega,e,h2,h3⟩
theorem aNv {l:List Ent} (hn:(l.map (·.id)).Nodup) (ha:l.Pairwise fun x y=>∀p,spends x p=true→spends y p=false) (hp:∀x∈l,∀i∈x.tx.ins,fN i.p.i) {k i:Nat} (hk:k<l.length) (hi:i<l.length):named l (jL l (dM l k).id (dM l k).tx.outs.length) i=aJa l i k:=by
 rw [Bool.eq_iff_iff,pW,aF7,aJa,bY hk,bY hi]
 unfold xL
 rw [List.any_eq_true]
 constructor
 ·rintro ⟨j,h1,e,h2,h3⟩
  have h4:=List.mem_of_find?_eq_some h2
  obtain ⟨q,hq,rfl⟩:=List.getElem_of_mem h4
  have:=kX hn hq hi (by rw [bY hq,bY hi];exact h3)
  subst this
  have h5:=List.find?_some h2
  unfold spends at h5
  rw [List.any_eq_true] at h5
  obtain ⟨x,hx,h6⟩:=h5
  have h7:=of_decide_eq_true h6
  exact ⟨x,hx,by rw [Bool.and_eq_true,h7];exact ⟨dTr rfl,dTr (by simp only;omega)⟩⟩
 ·rintro ⟨x,hx,h2⟩
  rw [Bool.and_eq_true] at h2
  have e1:=of_decide_eq_true h2.1
  have e2:=of_decide_eq_true h2.2
  have h32:=hp _ (gMe hi) x hx
  unfold fN at h32
  refine ⟨x.p.i.toNat,by omega,l[i],?_,rfl⟩
  refine bM3 ha hi ?_
  unfold spends
  refine List.any_eq_true.2 ⟨x,hx,dTr ?_⟩
  refine bCo e1 ?_
  simp only;omega
theorem bKp {l:List Ent} (hn:(l.map (·.id)).Nodup) (ha:l.Pairwise fun x y=>∀p,spends x p=true→spends y p=false) (hp:∀x∈l,∀i∈x.tx.ins,fN i.p.i) {id:ByteArray}:cB l [id] (fun x=>jL l x.id x.tx.outs.length)=bV l id:=by
 refine aHh (fun i hi=>?_) (fun k i hk hi=>aNv hn ha hp hk hi)
 rw [Bool.eq_iff_iff,pW,bY hi]
 simp only [List.mem_singleton,decide_eq_true_eq]
 constructor
 ·intro e
  subst e
  exact (idxOf_hit hi (dTr rfl) (fun j hj=>dFa fun e=>by
   have:=kX hn (show j<l.length by omega) hi (by rw [bY (by omega),bY hi];exact e)
   omega)).symm
 ·intro e
  unfold bQ idxOf at e
  split at e
  ·rename_i q hq
   obtain ⟨h1,h2,_⟩:=List.findIdx?_eq_some_iff_getElem.1 hq
   have:i=q:=by omega
   subst this
   exact of_decide_eq_true h2
  ·omega
theorem bHk:bW Tryz.prog F.graph_Graph_Above_1=true:=by kernel_rfl
theorem aXc:bW Tryz.prog F.graph_Graph_children=true:=by kernel_rfl
theorem aXs {g bg:Nat} {M N:List Nat} {l:List Ent} {cs:List Value} {x:Ent} (w:World) (hG:GrR w g M l) (hM:∀b∈M,b<w.heap.size) (hg:At w bg (.cells [.pointer (some ⟨g,0,none⟩)].toArray T.P_graph_Graph (0,0))) (hx:eD.rel N w cs x) (hs:x.tx.ins.length≤100000):K.Spec Tryz.prog F.graph_Graph_Above_1 [.agg cs.toArray,.pointer (some ⟨bg,0,none⟩)] w fun r w'=>
  Own bB T.string w.heap.size w' r (dX l x.tx.ins)∧Ext w w':=by
 obtain ⟨iv,ov,rfl,h1,h2,h3⟩:=hx
 have rg:Row w ⟨bg,0,none⟩ [.pointer (some ⟨g,0,none⟩)]:=Row.of_at hg
 refine aBr rfl ?_
 unfold oY
 refine oy ?_
 repeat' (first|(first|refine go2 ?_|fail)|refine zD rfl rfl (fun bp wp xp ap (rp:Row wp ⟨bp,0,none⟩ (bE x iv ov)) hp0=>?_)|(refine zC rfl (aIi (M:=M) (N:=N) (cs:=aK x.tx iv ov) (t:=x.tx) _ (hG.ext (by exact fx)) (fun b hb=>nLt (hM b hb) (Ext.size (by exact fx))) ⟨iv,ov,rfl,by exact fx,by exact fx,h3.1,h3.2.1⟩ hs) ?_;rintro v5 w5 ⟨o5,x5⟩))
 exact aA rfl ⟨o5.lower xp.size,xp.trans x5⟩
end
section
open Go Go.K
attribute [local irreducible] aH aM aY KOp.wp K.Spec u32 leS vnS str aP cM bK idT aQ aG aN idN bG cL cB
theorem aNz {l:List Ent} {ins:List TIn}:∀s∈dX l ins,∃j,j<l.length∧(dM l j).id=s:=by
 intro s hs
 unfold dX at hs
 obtain ⟨x,hx,rfl⟩:=List.mem_map.1 hs
 obtain ⟨h1,h2⟩:=List.mem_filter.1 hx
 unfold fH iM at h2
 rw [Bool.and_eq_true,List.any_eq_true] at h2
 obtain ⟨⟨y,hy,hd⟩,_⟩:=h2
 obtain ⟨j,hj,rfl⟩:=List.getElem_of_mem hy
 exact ⟨j,hj,by rw [bY hj];exact of_decide_eq_true hd⟩
theorem bFs {l:List Ent} {id:ByteArray} {n:Nat}:∀s∈jL l id n,∃j,j<l.length∧(dM l j).id=s:=by
 intro s hs
 obtain ⟨j,_,e,he,rfl⟩:=aF7.1 hs
 obtain ⟨q,hq,rfl⟩:=List.getElem_of_mem (List.mem_of_find?_eq_some he)
 exact ⟨q,hq,by rw [bY hq]⟩
theorem aLl {g:Nat} {M N:List Nat} {l:List Ent} {cs:List Value} {t:Tx} (w:World) (hG:GrR w g M l) (hM:∀b∈M,b<w.heap.size) (ht:txR.rel N w cs t) (hs:t.ins.length≤1000) (hn:l.length≤1000):K.Spec Tryz.prog F.graph_Graph_Above [.pointer (some ⟨g,0,none⟩),.agg cs.toArray] w fun r w'=>
  Own bB T.string w.heap.size w' r (aO l (dC l t))∧Ext w w':=by
 have hsm:∀x∈l,x.tx.Sm:=fun x hx=>nD (hG.ok x hx).check
 have hnd:=hG.nodup
 have ht0:=ht
 obtain ⟨iv,ov,rfl, -⟩:=ht
 refine aEk rfl ?_
 unfold rP
 refine oy ?_
 repeat' (first|(first|refine go2 ?_|fail)|refine zD rfl rfl (fun bg wg xg ag (rg:Row wg ⟨bg,0,none⟩ [.pointer (some ⟨g,0,none⟩)]) hg0=>?_)|refine zD (d:=some 3) rfl rfl (fun bp wp xp ap (rp:Row wp ⟨bp,0,none⟩ (aK t iv ov)) hp0=>?_)|(refine zC rfl (aIi (M:=M) (N:=N) (cs:=aK t iv ov) (t:=t) _ (hG.ext (by exact fx)) (fun b hb=>nLt (hM b hb) (Ext.size (by exact fx))) (by exact fx) (by omega)) ?_;rintro v5 w5 ⟨o5,x5⟩;obtain ⟨b5,c5,rfl⟩:=o5.sl.form)|refine fG ?_ ?_)
 all_goals
  have xg5:Ext wg w5:=by exact fx
  have xw:Ext w w5:=xg.trans xg5
  have hle:(dX l t.ins).length≤1000:=nTr (rL _ _) hs
  refine zC rfl (aQa (g:=g) (M:=M) (l:=l) (frm:=dX l t.ins) (nxt:=fun x=>dX l x.tx.ins) _ (hG.ext xw) (fun b hb=>nLt (hM b hb) xw.size) o5.sl ⟨F.graph_Graph_Above_1,#[],#[.pointer (some ⟨bg,0,none⟩)],rfl,bHk,fun x hx w' cs xx hr=>aXs (M:=M) (N:=M) (l:=l) (cs:=cs) (x:=x) w' (hG.ext (xw.trans xx)) (fun b hb=>nLt (hM b hb) (xw.trans xx).size) (At.ext (xg5.trans xx) ag) hr (by have:=(hsm x hx).ins;omega)⟩ hn hle aNz (fun i hi=>aNz) (fun x hx=>nTr (rL _ _) (hsm x hx).ins)) ?_
  rintro v6 w6 ⟨o6,x6⟩
  refine goR ?_
  rw [bLe hnd] at o6
  exact aA rfl ⟨o6.lower xw.size,xw.trans x6⟩
theorem vJ {g:Nat} {M:List Nat} {l:List Ent} (id:ByteArray) (w:World) (hG:GrR w g M l) (hM:∀b∈M,b<w.heap.size) (hn:l.length≤1000):K.Spec Tryz.prog F.graph_Graph_Below [.pointer (some ⟨g,0,none⟩),.string id] w fun r w'=>
  Own bB T.string w.heap.size w' r (aO l (bV l id))∧Ext w w':=by
 have hsm:∀x∈l,x.tx.Sm:=fun x hx=>nD (hG.ok x hx).check
 have hnd:=hG.nodup
 refine aEh rfl ?_
 unfold rM
 refine oy ?_
 repeat' (first|(first|refine go2 ?_|fail)|(refine zC rfl (nS (M:=M) id _ (hG.ext (by exact fx)) (fun b hb=>nLt (hM b hb) (Ext.size (by exact fx)))) ?_;rintro v5 w5 ⟨ds,rfl,e5,x5⟩;obtain ⟨iv,ov,rfl,o1,o2,o3⟩:=e5;have i1:=o1.one;have i2:=o2.one)|refine zE (d':=5) (fun _=>rfl) rfl rfl (by simp [bE,i1,i2];exact ⟨rfl,rfl,rfl,rfl,rfl⟩) (fun b6 w6 x6 a6 (r6:Row w6 ⟨b6,0,none⟩ (bE (dI l id) iv ov)) hb6=>?_)|refine zM rfl (fun h=>?_) (fun h=>?_)|refine zI (d:=some 17) (cs:= [.string id]) rfl (fun b w10 x10 a10 hb=>?_))
 ·have hno:iM l id=false:=by simpa using h
  have hf:bQ l id<0:=by
   rcases Int.lt_or_le (bQ l id) 0 with h1|h1
   ·exact h1
   ·have h2:=mS (p:=fun x:Ent=>decide (x.id=id)) (l:=l)
    have h3:iM l id=true:=by unfold iM;rw [←h2];exact dTr h1
    rw [h3] at hno;cases hno
  have e0:aO l (bV l id)= []:=by
   refine bBn fun b hb=>?_
   unfold bV tJ at hb
   obtain ⟨i,hi,rfl⟩:=List.mem_map.1 hb
   exact aOd (fun j _=>dFa (by omega)) _ _ (by simpa using hi)
  rw [e0]
  exact aA rfl ⟨Own.nil _ _ _,x5.trans x6⟩
 ·have hyes:iM l id=true:=by simpa using h
  have xw:Ext w w10:=(x5.trans x6).trans x10
  have hnx:bOs (.func (.func F.graph_Graph_children) #[.pointer (some ⟨g,0,none⟩)] #[]) l M w10 (fun x=>jL l x.id x.tx.outs.length):=⟨F.graph_Graph_children,#[.pointer (some ⟨g,0,none⟩)],#[],rfl,aXc,fun x hx w' cs xx hr=>aQ5 (M:=M) (N:=M) (l:=l) (cs:=cs) (x:=x) w' (hG.ext (xw.trans xx)) hr (by have:=(hsm x hx).outs;omega)⟩
  refine zC rfl (aQa (g:=g) (M:=M) (l:=l) (frm:= [id]) (nxt:=fun x=>jL l x.id x.tx.outs.length) _ (hG.ext xw) (fun b hb=>nLt (hM b hb) xw.size) (SlE.new (E:=bB) (l:= [id]) a10 rfl (Nat.le_refl _)) hnx hn (by simp) (fun s hs=>?_) (fun i hi=>bFs) (fun x hx=>nTr (wZ _ _ _) (hsm x hx).outs)) ?_
  ·simp only [List.mem_singleton] at hs
   subst hs
   unfold iM at hyes
   rw [List.any_eq_true] at hyes
   obtain ⟨y,hy,hd⟩:=hyes
   obtain ⟨j,hj,rfl⟩:=List.getElem_of_mem hy
   exact ⟨j,hj,by rw [bY hj];exact of_decide_eq_true hd⟩
  rintro v6 w6 ⟨o6,x6⟩
  refine goR ?_
  have hinv:l.Pairwise fun x y=>∀p,spends x p=true→spends y p=false:=by
   obtain ⟨b1,vo,b2,m,sp,hP⟩:=hG;exact hP.inv.apart
  rw [bKp hnd hinv hG.pos] at o6
  exact aA rfl ⟨o6.lower xw.size,xw.trans x6⟩
end
section
open Go Go.K
attribute [local irreducible] aH aM aY KOp.wp K.Spec u32 leS vnS str aP cM bK idT aQ aG aN idN bG cL cB
theorem aKt {x:Ent} (h:EntOk x):bT x.fee=true∧0≤x.size∧x.size≤100000000000:=by
 refine ⟨h.fee,?_⟩
 have:=(cI (nD h.check) h.check).size
 rw [h.size]
 omega
theorem aKv {g:Nat} {M:List Nat} {l:List Ent} {v:Value} {ids:List ByteArray} (w:World) (hG:GrR w g M l) (hM:∀b∈M,b<w.heap.size) (hi:SlE bB w v ids) (hn:ids.length≤4000):K.Spec Tryz.prog F.graph_Graph_Sum [.pointer (some ⟨g,0,none⟩),v] w fun r w'=>
  r=.tuple #[.int .i64 (kZ l ids),.int .i64 (fL l ids)]∧Ext w w':=by
 have hfit:∀x∈l,bT x.fee=true∧0≤x.size∧x.size≤100000000000:=fun x hx=>aKt (hG.ok x hx)
 refine vY rfl ?_
 unfold nR
 refine oy ?_
 repeat' (first|(first|refine go2 ?_|fail)|refine zL rfl (fun h=>?_) (fun h=>?_)|(refine iX (E:=sK) (fv:=fun n:Nat=>Value.int .i64 (n:Nat)) (fun bm w1 x1 m1 hb1=>?_);have lm:=m1.lt)|refine bL rfl (SlE.ext (w:=w) (by exact fx) hi) ?_|(refine aJ (fun (p:Nat × List (ByteArray × Nat)) w'=>Ext w w'∧p.1≤ids.length∧dB sK (fun n:Nat=>Value.int .i64 (n:Nat)) w' bm p.2∧∀s,(inB (ids.take p.1) s=false→aS p.2 s=none)∧(inB (ids.take p.1) s=true→∃c,aS p.2 s=some c∧1≤c∧c≤p.1)) (fun p=> [(0,.pointer (some ⟨g,0,none⟩)),(6,.int .i64 (kZ l (ids.take p.1))),(7,.int .i64 (fL l (ids.take p.1))),(8,.map (some bm)),(14,v),(15,.int .i64 (ids.length:Nat)),(16,.int .i64 p.1)]) (fun p=>ids.length - p.1) (0, []) ⟨rfl,rfl,rfl,rfl,rfl,rfl,rfl,trivial⟩ ⟨x1,by simp,m1,fun s=>⟨fun _=>rfl,fun h=>by simp [inB] at h⟩⟩ ?_;rintro ⟨i,met⟩ ρ w3 ⟨x3,hi3,hm,hc⟩;simp only at hi3 hm hc;dsimp only))
 ·have hil:i<ids.length:=by omega
  have hb0:=aFr hfit (ids:=ids.take i) (by rw [List.length_take];omega)
  have hb1':=aFr hfit (ids:=ids.take (i+1)) (by rw [List.length_take];omega)
  have hf:=bHx (l:=l) hil
  have hz:=bB7 (l:=l) hil
  have hmem:∀s,inB (ids.take (i+1)) s=(inB (ids.take i) s||decide (ids[i]=s)):=fun s=>by
   rw [List.take_succ_eq_append_getElem hil];unfold inB;simp only [List.any_append,List.any_cons,List.any_nil,Bool.or_false]
  refine aT rfl rfl (n:=i) (l:=ids) (hi.ext x3) rfl hil (fun ad r5=>?_)
  have r5:Row w3 ad [Value.string ids[i]]:=r5
  generalize hq:kZ l (ids.take i)=fee0 at*
  generalize hq2:fL l (ids.take i)=size0 at*
  cases hin:inB (ids.take i) ids[i] with
  |false=>
   rw [hin] at hf hz
   simp only [Bool.false_eq_true,if_false] at hf hz
   have hno:=(hc ids[i]).1 hin
   repeat' (first|(first|refine go2 ?_|fail)|refine eQ (d:=some 22) (E:=sK) (fv:=fun n:Nat=>Value.int .i64 (n:Nat)) (k:=ids[i]) rfl rfl hm rfl rfl (fun c hcc=>by rw [hno] at hcc;cases hcc) (fun hcn=>?_)|(refine eY (E:=sK) (fv:=fun n:Nat=>Value.int .i64 (n:Nat)) (k:=ids[i]) (v:=1) rfl rfl rfl hm rfl rfl (fun w4 c4 m4=>?_);have x4:Ext w w4:=(Ext.chg x3 c4).mono (by intro y hy;simp at hy;right;omega);clear x3)|(refine eQ (d:=some 26) (E:=sK) (fv:=fun n:Nat=>Value.int .i64 (n:Nat)) (k:=ids[i]) rfl rfl m4 rfl rfl (fun c hcc=>?_) (fun hcn=>by rw [cP,if_pos rfl] at hcn;cases hcn);rw [cP,if_pos rfl] at hcc;injection hcc with hcc;subst hcc)|refine zL rfl (fun h9=>absurd h9 (by decide)) (fun h9=>?_)|(refine zC rfl (nS (M:=M) ids[i] _ (hG.ext (by exact fx)) (fun b hb=>nLt (hM b hb) (Ext.size (by exact fx)))) ?_;rintro _ w5 ⟨ds,rfl,e5,x5⟩;obtain ⟨iv,ov,rfl,o1,o2,o3⟩:=e5;have i1:=o1.one;have i2:=o2.one)|refine zE (d':=11) (fun _=>rfl) rfl rfl (by simp [bE,i1,i2];exact ⟨rfl,rfl,rfl,rfl,rfl⟩) (fun b6 w6 x6 a6 (r6:Row w6 ⟨b6,0,none⟩ (bE (dI l ids[i]) iv ov)) hb6=>?_))
   refine ⟨(i+1,fV met ids[i] 1),⟨rfl,?_,?_,rfl,rfl,rfl,rfl,trivial⟩,⟨by exact fx,by simp;omega,m4.ext (by exact fx),fun s=>?_⟩,by simp;omega⟩
   ·show _=Value.int .i64 (kZ l (ids.take (i+1)));rw [hf];rw [hf] at hb1';exact congrArg (Value.int .i64) (IntWalk.i64_in _ (by show -9223372036854775808≤fee0+(rG l ids[i]).fee∧fee0+(rG l ids[i]).fee≤9223372036854775807;omega))
   ·show _=Value.int .i64 (fL l (ids.take (i+1)));rw [hz];rw [hz] at hb1';exact congrArg (Value.int .i64) (IntWalk.i64_in _ (by show -9223372036854775808≤size0+(rG l ids[i]).size∧size0+(rG l ids[i]).size≤9223372036854775807;omega))
   ·show (inB (ids.take (i+1)) s=false→_)∧(inB (ids.take (i+1)) s=true→∃c,_∧1≤c∧c≤i+1)
    rw [hmem,cP]
    by_cases e:ids[i]=s
    ·rw [if_pos e,dTr e];exact ⟨fun h=>by simp at h,fun _=>⟨1,rfl,by omega,by omega⟩⟩
    ·rw [if_neg e,dFa e,Bool.or_false]
     exact ⟨(hc s).1,fun h=>by obtain ⟨c,q1,q2,q3⟩:=(hc s).2 h;exact ⟨c,q1,q2,by omega⟩⟩
  |true=>
   rw [hin] at hf hz
   simp only [if_true] at hf hz
   obtain ⟨c0,hc0,hc1,hc2⟩:=(hc ids[i]).2 hin
   repeat' (first|(first|refine go2 ?_|fail)|(refine eQ (d:=some 22) (E:=sK) (fv:=fun n:Nat=>Value.int .i64 (n:Nat)) (k:=ids[i]) rfl rfl hm rfl rfl (fun c hcc=>?_) (fun hcn=>by rw [hc0] at hcn;cases hcn);rw [hc0] at hcc;injection hcc with hcc;subst hcc)|(refine eY (E:=sK) (fv:=fun n:Nat=>Value.int .i64 (n:Nat)) (k:=ids[i]) (v:=c0+1) rfl rfl rfl hm rfl rfl (fun w4 c4 m4=>?_);have x4:Ext w w4:=(Ext.chg x3 c4).mono (by intro y hy;simp at hy;right;omega);clear x3)|(refine eQ (d:=some 26) (E:=sK) (fv:=fun n:Nat=>Value.int .i64 (n:Nat)) (k:=ids[i]) rfl rfl m4 rfl rfl (fun c hcc=>?_) (fun hcn=>by rw [cP,if_pos rfl] at hcn;cases hcn);rw [cP,if_pos rfl] at hcc;injection hcc with hcc;subst hcc)|refine zL rfl (fun h9=>?_) (fun h9=>absurd h9 (by omega)))
   refine ⟨(i+1,fV met ids[i] (c0+1)),⟨rfl,?_,?_,rfl,rfl,rfl,rfl,trivial⟩,⟨by exact fx,by simp;omega,m4.ext (by exact fx),fun s=>?_⟩,by simp;omega⟩
   ·show _=Value.int .i64 (kZ l (ids.take (i+1)));rw [hf];rfl
   ·show _=Value.int .i64 (fL l (ids.take (i+1)));rw [hz];rfl
   ·show (inB (ids.take (i+1)) s=false→_)∧(inB (ids.take (i+1)) s=true→∃c,_∧1≤c∧c≤i+1)
    rw [hmem,cP]
    by_cases e:ids[i]=s
    ·rw [if_pos e,dTr e];exact ⟨fun h=>by simp at h,fun _=>⟨c0+1,rfl,by omega,by omega⟩⟩
    ·rw [if_neg e,dFa e,Bool.or_false]
     exact ⟨(hc s).1,fun h=>by obtain ⟨c,q1,q2,q3⟩:=(hc s).2 h;exact ⟨c,q1,q2,by omega⟩⟩
 ·have ei:i=ids.length:=by omega
  subst ei
  rw [tLe (Nat.le_refl _)]
  exact aA rfl ⟨rfl,x3⟩
end
section
open Go Go.K
attribute [local irreducible] aH aM aY KOp.wp K.Spec u32 leS vnS str aP cM bK idT aQ aG aN idN bG cL cB bQ cF fM dC bV aO kZ fL
theorem aMc {g:Nat} {M:List Nat} {l:List Ent} {v:Value} {ids:List ByteArray} (more count size:Int) (w:World) (hG:GrR w g M l) (hM:∀b∈M,b<w.heap.size) (hi:SlE bB w v ids) (hn:ids.length≤4000) (hm:0≤more∧more≤1000000000):
  K.Spec Tryz.prog F.limit_within [.pointer (some ⟨g,0,none⟩),v,.int .i64 more,.int .i64 count,.int .i64 size] w fun r w'=>r=.bool (wiP l ids more count size)∧Ext w w':=by
 have hb:=(aFr (l:=l) (fun x hx=>aKt (hG.ok x hx)) hn).2
 refine aP3 rfl ?_
 unfold aDa
 refine oy ?_
 repeat' (first|(first|refine go2 ?_|fail)|(refine zC rfl (aKv (M:=M) (l:=l) (ids:=ids) _ hG hM hi hn) ?_;rintro _ w2 ⟨rfl,x2⟩)|refine bL rfl (SlE.ext (w:=w) (by exact fx) hi) ?_|refine zJ rfl (fun h=>?_) (fun h=>?_))
 ·have e:wiP l ids more count size=decide (fL l ids+more≤size):=by unfold wiP;rw [dTr h,Bool.true_and]
  rw [e]
  exact aA rfl ⟨rfl,x2⟩
 ·have e:wiP l ids more count size=false:=by unfold wiP;rw [dFa h,Bool.false_and]
  rw [e]
  exact aA rfl ⟨rfl,x2⟩
theorem aIw (l:List Ent) (m:List Bool):(aO l m).length≤l.length:=by
 have:=(jG l m).length_le
 simpa using this
theorem aWv {g:Nat} {M:List Nat} {l:List Ent} {v:Value} {ids:List ByteArray} (more count size:Int) (w:World) (hG:GrR w g M l) (hM:∀b∈M,b<w.heap.size) (hi:SlE bB w v ids) (hn:ids.length≤4000) (hl:l.length≤1000) (hm:0≤more∧more≤1000000000):
  K.Spec Tryz.prog F.limit_housed [.pointer (some ⟨g,0,none⟩),v,.int .i64 more,.int .i64 count,.int .i64 size] w fun r w'=>r=.bool (hoP l ids more count size)∧Ext w w':=by
 refine aPm rfl ?_
 unfold aDb
 refine oy ?_
 repeat' (first|(first|refine go2 ?_|fail)|refine zL rfl (fun h=>?_) (fun h=>?_)|refine zM rfl (fun h=>?_) (fun h=>?_)|refine bL rfl (SlE.ext (w:=w) (by exact fx) hi) ?_|(refine aJ (fun (i:Nat) w'=>Ext w w'∧i≤ids.length∧∀s∈ids.take i,wiP l (aO l (bV l s)) more count size=true) (fun i=> [(0,.pointer (some ⟨g,0,none⟩)),(2,.int .i64 more),(3,.int .i64 count),(4,.int .i64 size),(13,v),(14,.int .i64 (ids.length:Nat)),(15,.int .i64 i)]) (fun i=>ids.length - i) 0 ⟨rfl,rfl,rfl,rfl,rfl,rfl,rfl,trivial⟩ ⟨Ext.refl _,Nat.zero_le _,by simp⟩ ?_;rintro i ρ w3 ⟨x3,hi3,hk⟩)|(have hil:i<ids.length:=(by omega);refine aT (d:=some 17) (E:=bB) rfl rfl (n:=i) (l:=ids) (hi.ext x3) rfl hil (fun ad r5=>?_);have r5:Row w3 ad [Value.string ids[i]]:=r5)|(refine zC rfl (vJ (M:=M) (l:=l) ids[i] _ (hG.ext (by exact fx)) (fun b hb=>nLt (hM b hb) (Ext.size (by exact fx))) hl) ?_;rintro vb w6 ⟨ob,x6⟩;have sb:=ob.sl)|(refine zC rfl (aMc (M:=M) (l:=l) (ids:=aO l (bV l ids[i])) more count size _ (hG.ext (by exact fx)) (fun b hb=>nLt (hM b hb) (Ext.size (by exact fx))) sb (nTr (aIw _ _) (by omega)) hm) ?_;rintro _ w7 ⟨rfl,x7⟩))
 ·have e:hoP l ids more count size=false:=by
   unfold hoP
   rw [List.all_eq_false]
   exact ⟨_,gMe hil,by simpa using h⟩
  rw [e]
  exact aA rfl ⟨rfl,by exact fx⟩
 ·refine ⟨i+1,⟨rfl,rfl,rfl,rfl,rfl,rfl,rfl,trivial⟩,⟨by exact fx,by omega,fun s hs=>?_⟩,by omega⟩
  rw [List.take_succ_eq_append_getElem hil] at hs
  rcases List.mem_append.1 hs with h1|h1
  ·exact hk s h1
  ·simp only [List.mem_singleton] at h1;subst h1;simpa using h
 ·have e:hoP l ids more count size=true:=by
   unfold hoP
   rw [tLe (by omega)] at hk
   exact List.all_eq_true.2 hk
  rw [e]
  exact aA rfl ⟨rfl,by exact fx⟩
theorem aRw {g:Nat} {M N:List Nat} {l:List Ent} {cs:List Value} {t:Tx} (w:World) (hG:GrR w g M l) (hM:∀b∈M,b<w.heap.size) (ht:txR.rel N w cs t) (hs:t.Sm) (hl:l.length≤1000):
  K.Spec Tryz.prog F.limit_Fits [.pointer (some ⟨g,0,none⟩),.agg cs.toArray] w fun r w'=>r=.int .i64 (iN l t)∧Ext w w':=by
 have ht0:=ht
 obtain ⟨iv,ov,rfl, -⟩:=ht
 by_cases hc:aG t=0
 ·have hz:=cI hs hc
  have hz2:=hz.size
  have hmore:(0:Int)≤((aQ t:Nat):Int)∧((aQ t:Nat):Int)≤1000000000:=by omega
  have e0:pG t=.tuple #[.int .i64 (aQ t:Nat),.int .i64 0]:=by rw [pG,if_pos hc]
  have hLe:=aIw l (dC l t)
  have hfit:iN l t=if wiP l (aO l (dC l t)) (aQ t:Nat) 25 101000=false then 14 else if hoP l (aO l (dC l t)) (aQ t:Nat) 25 101000 then 0
   else if ((aO l (dC l t)).length:Int)=1∧((aQ t:Nat):Int)≤10000∧hoP l (aO l (dC l t)) (aQ t:Nat) 26 111000=true then 0 else 14:=by
   rw [iN,if_neg (by simpa using hc)]
  rw [hfit]
  refine aIe rfl ?_
  unfold aAk
  refine oy ?_
  repeat' (first|(first|refine go2 ?_|fail)|refine zK rfl (fun h=>?_) (fun h=>?_)|refine zM rfl (fun h=>?_) (fun h=>?_)|refine zJ rfl (fun h=>?_) (fun h=>?_)|refine zD rfl rfl (fun bp wp xp ap (rp:Row wp ⟨bp,0,none⟩ (aK t iv ov)) hp0=>?_)|(refine zC rfl (iK (M:=N) (cs:=aK t iv ov) (t:=t) _ (R.ext ht0 (by exact fx)) hs) ?_;rintro _ w3 ⟨rfl,x3⟩;rw [e0])|(refine zC rfl (aLl (M:=M) (N:=N) (l:=l) (cs:=aK t iv ov) (t:=t) _ (hG.ext (by exact fx)) (fun b hb=>nLt (hM b hb) (Ext.size (by exact fx))) (R.ext ht0 (by exact fx)) hs.ins hl) ?_;rintro va w4 ⟨oa,x4⟩;have sa:=oa.sl)|(refine zC rfl (aMc (M:=M) (l:=l) (ids:=aO l (dC l t)) _ _ _ _ (hG.ext (by exact fx)) (fun b hb=>nLt (hM b hb) (Ext.size (by exact fx))) (SlE.ext (by exact fx) sa) (by omega) hmore) ?_;rintro _ w5 ⟨rfl,x5⟩)|(refine zC rfl (aWv (M:=M) (l:=l) (ids:=aO l (dC l t)) _ _ _ _ (hG.ext (by exact fx)) (fun b hb=>nLt (hM b hb) (Ext.size (by exact fx))) (SlE.ext (by exact fx) sa) (by omega) hl hmore) ?_;rintro _ w6 ⟨rfl,x6⟩)|refine bL rfl (SlE.ext (by exact fx) sa) ?_)
  all_goals clear hG hM ht0 rp ap
  all_goals exact aA rfl ⟨congrArg (Value.int .i64) (by first|(simp_all;done)|(simp_all;intros;omega)),by exact fx⟩
 ·have e0:pG t=.tuple #[.int .i64 0,.int .i64 (aG t)]:=by rw [pG,if_neg hc]
  have hfit:iN l t=aG t:=by rw [iN,if_pos hc]
  rw [hfit]
  refine aIe rfl ?_
  unfold aAk
  refine oy ?_
  repeat' (first|(first|refine go2 ?_|fail)|refine zN rfl (fun h=>?_) (fun h=>absurd h hc)|refine zD rfl rfl (fun bp wp xp ap (rp:Row wp ⟨bp,0,none⟩ (aK t iv ov)) hp0=>?_)|(refine zC rfl (iK (M:=N) (cs:=aK t iv ov) (t:=t) _ (R.ext ht0 (by exact fx)) hs) ?_;rintro _ w3 ⟨rfl,x3⟩;rw [e0]))
  exact aA rfl ⟨rfl,by exact fx⟩
end
end Go.Proofs.YteceapipdhnhdaaGreatDoor
