/- The engine, part 17: maps of nested data: steps; keys that a -/
import Derived.Test.YtfebcajheojodaaGreatDoorZ17
set_option linter.unusedVariables false
set_option linter.unusedSimpArgs false
namespace Go.K
section
open Go
variable {P:Program}
def sK:KEnc ByteArray:=⟨Value.string,false, [.s],by intro a b;simp [aBc,dE,lG],by intro a;rfl⟩
section
variable {κ β:Type} [DecidableEq κ] {KE:KEnc κ} {F:R β} {M:List Nat} {w:World} {d:Option Tmp} {r:KR} {K:Env→World→Prop} {ρ:Env}
theorem sP {s:Bool} {ks:List CK} {z:Value} {m x:Operand} {b:Nat} {l:List (κ × β)} {k:κ} (hm:ev ρ m=.map (some b)) (hx:ev ρ x=KE.f k) (hM:nG KE F M w b l) (hs:s=KE.s) (hks:ks=KE.ks)
  (k1:∀y cs,aS l k=some y→F.rel M w cs y→aO P r K (put ρ d (.tuple #[F.val cs,.bool true])) w) (k2:aS l k=none→aO P r K (put ρ d (.tuple #[z,.bool false])) w):aO P (.cons ⟨d,.lookup s ks z true m x,none⟩ r) K ρ w:=by
 obtain ⟨mv,h1,h2⟩:=hM
 have ha:=aJw (r:=fun v y=>∃cs,v=F.val cs∧F.rel M w cs y) (k:=k) h2
 refine mZ (E:=KE) (fv:=id) hm hx h1 hs hks (fun v hv=>?_) (fun hv=>?_)
 ·cases hg:aS l k with
  |none=>rw [ha.2 hg] at hv;cases hv
  |some y=>
   obtain ⟨v',e,cs,e2,hr⟩:=ha.1 y hg
   rw [e] at hv;injection hv with hv;subst hv;subst e2
   exact k1 y cs hg hr
 ·cases hg:aS l k with
  |none=>exact k2 hg
  |some y=>
   obtain ⟨v',e,_⟩:=ha.1 y hg
   rw [e] at hv;cases hv
theorem aZi {s:Bool} {ks:List CK} {z:Value} {m x:Operand} {b:Nat} {l:List (κ × β)} {k:κ} (hm:ev ρ m=.map (some b)) (hx:ev ρ x=KE.f k) (hM:nG KE F M w b l) (hs:s=KE.s) (hks:ks=KE.ks)
  (k1:∀y cs,aS l k=some y→F.rel M w cs y→aO P r K (put ρ d (F.val cs)) w) (k2:aS l k=none→aO P r K (put ρ d z) w):aO P (.cons ⟨d,.lookup s ks z false m x,none⟩ r) K ρ w:=by
 obtain ⟨mv,h1,h2⟩:=hM
 have ha:=aJw (r:=fun v y=>∃cs,v=F.val cs∧F.rel M w cs y) (k:=k) h2
 refine eR (E:=KE) (fv:=id) hm hx h1 hs hks (fun v hv=>?_) (fun hv=>?_)
 ·cases hg:aS l k with
  |none=>rw [ha.2 hg] at hv;cases hv
  |some y=>
   obtain ⟨v',e,cs,e2,hr⟩:=ha.1 y hg
   rw [e] at hv;injection hv with hv;subst hv;subst e2
   exact k1 y cs hg hr
 ·cases hg:aS l k with
  |none=>exact k2 hg
  |some y=>
   obtain ⟨v',e,_⟩:=ha.1 y hg
   rw [e] at hv;cases hv
theorem aFh {s:Bool} {ks:List CK} {m x y:Operand} {b:Nat} {l:List (κ × β)} {k:κ} {v:β} {cs:List Value} (hm:ev ρ m=.map (some b)) (hx:ev ρ x=KE.f k) (hy:ev ρ y=F.val cs) (hM:nG KE F M w b l) (hr:F.rel M w cs v) (hb:b∈M) (hs:s=KE.s) (hks:ks=KE.ks)
  (kk:∀w',Chg [b] w w'→nG KE F M w' b (fN l k v)→aO P r K (put ρ d undef) w'):aO P (.cons ⟨d,.mapUpdate s ks m x y,none⟩ r) K ρ w:=by
 obtain ⟨mv,h1,h2⟩:=hM
 refine fA (E:=KE) (fv:=id) (v:=F.val cs) hm hx hy h1 hs hks fun w' c hM'=>kk w' c ⟨_,hM',?_⟩
 have h3:All2 (fun (p:κ × Value) (q:κ × β)=>p.1=q.1∧∃cs,p.2=F.val cs∧F.rel M w' cs q.2) mv l:=h2.mono fun _ _ ⟨e,cs,e2,hr⟩=>⟨e,cs,e2,F.step hr c (by intro y hy;simp at hy;subst hy;exact .inl hb) (fun _ h=>.inl h)⟩
 exact aZe (r:=fun v y=>∃cs,v=F.val cs∧F.rel M w' cs y) ⟨cs,rfl,F.step hr c (by intro y hy;simp at hy;subst hy;exact .inl hb) (fun _ h=>.inl h)⟩ h3
theorem aOk {s:Bool} {ks:List CK} {m x:Operand} {b:Nat} {l:List (κ × β)} {k:κ} (hm:ev ρ m=.map (some b)) (hx:ev ρ x=KE.f k) (hM:nG KE F M w b l) (hb:b∈M) (hs:s=KE.s) (hks:ks=KE.ks)
  (kk:∀w',Chg [b] w w'→nG KE F M w' b (kW l k)→aO P r K (put ρ d (.tuple #[])) w'):aO P (.cons ⟨d,.delete s ks m x,none⟩ r) K ρ w:=by
 obtain ⟨mv,h1,h2⟩:=hM
 refine aLk (E:=KE) (fv:=id) hm hx h1 hs hks fun w' c hM'=>kk w' c ⟨_,hM',?_⟩
 have h3:All2 (fun (p:κ × Value) (q:κ × β)=>p.1=q.1∧∃cs,p.2=F.val cs∧F.rel M w' cs q.2) mv l:=h2.mono fun _ _ ⟨e,cs,e2,hr⟩=>⟨e,cs,e2,F.step hr c (by intro y hy;simp at hy;subst hy;exact .inl hb) (fun _ h=>.inl h)⟩
 exact bHo (r:=fun v y=>∃cs,v=F.val cs∧F.rel M w' cs y) h3
theorem nG.new {b:Nat} (h:dW KE id w b ([]:List (κ × Value))):nG KE F M w b []:=⟨[],h,.nil⟩
end
theorem aP5 {κ β:Type} [DecidableEq κ] (m:List (κ × β)) (k k':κ):aS (kW m k) k'=if k=k' then none else aS m k':=by
 unfold aS kW
 rw [List.find?_filter]
 by_cases h:k=k'
 ·subst h
  rw [if_pos rfl]
  have:m.find? (fun p=>decide (decide (p.1≠k)=true∧decide (p.1=k)=true))=none:=List.find?_eq_none.2 fun p _=>by simp
  simp [this]
 ·rw [if_neg h]
  congr 2
  funext p
  by_cases h2:p.1=k'
  ·simp [h2,Ne.symm h]
  ·simp [h2]
end
section
open Go
structure GI (m:List (ByteArray × Ent)) (sp:List (Pt × ByteArray)) (l:List Ent):Prop where
 ent:∀id,aS m id=l.find? fun x=>decide (x.id=id)
 spt:∀p,aS sp p=(l.find? fun x=>spends x p).map (·.id)
 nodup:(l.map (·.id)).Nodup
 apart:l.Pairwise fun x y=>∀p,spends x p=true→spends y p=false
 ok:∀x∈l,EntOk x
theorem GI.nil:GI [] [] []:=⟨fun _=>rfl,fun _=>rfl,List.nodup_nil,.nil,fun _ h=>by simp at h⟩
def mL (sp:List (Pt × ByteArray)) (ins:List TIn) (id:ByteArray):List (Pt × ByteArray):=ins.foldl (fun s x=>fN s x.p id) sp
def wS (sp:List (Pt × ByteArray)) (ins:List TIn):List (Pt × ByteArray):=ins.foldl (fun s x=>kW s x.p) sp
theorem dB {κ β:Type} [DecidableEq κ] (l:List (κ × β)) (k:κ) (v:β) (k':κ):aS (fN l k v) k'=if k=k' then some v else aS l k':=by
 induction l with
 |nil=>unfold aS fN;by_cases h:k=k'<;>simp [h]
 |cons p l ih=>
  have e:∀(q:κ × β) (m:List (κ × β)),aS (q::m) k'=if q.1=k' then some q.2 else aS m k':=by intro q m;unfold aS;rw [List.find?_cons];by_cases h:q.1=k'<;>simp [h]
  unfold fN
  by_cases h:p.1=k
  ·rw [if_pos h,e,e]
   by_cases h2:k=k'
   ·simp [h2]
   ·rw [if_neg h2,if_neg h2,if_neg (by rw [h];exact h2)]
  ·rw [if_neg h,e,e,ih]
   by_cases h2:p.1=k'
   ·rw [if_pos h2,if_pos h2,if_neg (by rw [←h2];exact fun e=>h e.symm)]
   ·rw [if_neg h2,if_neg h2]
theorem aQa (id:ByteArray):∀(ins:List TIn) (sp:List (Pt × ByteArray)) (p:Pt),aS (mL sp ins id) p=if ins.any (fun i=>decide (i.p=p)) then some id else aS sp p
 | [],sp,p=>by simp [mL]
 |x::ins,sp,p=>by
  have:=aQa id ins (fN sp x.p id) p
  simp only [mL,List.foldl_cons] at this ⊢
  rw [this,List.any_cons,dB]
  by_cases h1:ins.any (fun i=>decide (i.p=p))=true
  ·simp [h1]
  ·simp only [Bool.not_eq_true] at h1
   rw [h1]
   by_cases h2:x.p=p<;>simp [h2]
theorem aPn:∀(ins:List TIn) (sp:List (Pt × ByteArray)) (p:Pt),aS (wS sp ins) p=if ins.any (fun i=>decide (i.p=p)) then none else aS sp p
 | [],sp,p=>by simp [wS]
 |x::ins,sp,p=>by
  have:=aPn ins (kW sp x.p) p
  simp only [wS,List.foldl_cons] at this ⊢
  rw [this,List.any_cons,aP5]
  by_cases h1:ins.any (fun i=>decide (i.p=p))=true
  ·simp [h1]
  ·simp only [Bool.not_eq_true] at h1
   rw [h1]
   by_cases h2:x.p=p<;>simp [h2]
theorem aMw {sp:List (Pt × ByteArray)} {ins:List TIn} {id:ByteArray} {i:Nat} (h:i<ins.length):mL sp (ins.take (i+1)) id=fN (mL sp (ins.take i) id) ins[i].p id:=by
 rw [mL,mL,List.take_succ_eq_append_getElem h,List.foldl_append];rfl
theorem aLt {sp:List (Pt × ByteArray)} {ins:List TIn} {i:Nat} (h:i<ins.length):wS sp (ins.take (i+1))=kW (wS sp (ins.take i)) ins[i].p:=by
 rw [wS,wS,List.take_succ_eq_append_getElem h,List.foldl_append];rfl
theorem GI.add {m:List (ByteArray × Ent)} {sp:List (Pt × ByteArray)} {l:List Ent} (h:GI m sp l) {x:Ent} (hx:EntOk x) (h1:∀y∈l,y.id≠x.id) (h2:∀y∈l,∀p,spends x p=true→spends y p=false):GI (fN m x.id x) (mL sp x.tx.ins x.id) (l++ [x]) where
 ent:=fun id=>by
  rw [dB,List.find?_append,h.ent]
  by_cases e:x.id=id
  ·subst e
   have:l.find? (fun y=>decide (y.id=x.id))=none:=List.find?_eq_none.2 fun y hy=>by simpa using h1 y hy
   rw [if_pos rfl,this];simp
  ·rw [if_neg e]
   simp [e]
 spt:=fun p=>by
  rw [aQa,List.find?_append,h.spt]
  by_cases e:spends x p=true
  ·have:l.find? (fun y=>spends y p)=none:=List.find?_eq_none.2 fun y hy=>by rw [h2 y hy p e];decide
   have e':x.tx.ins.any (fun i=>decide (i.p=p))=true:=e
   rw [if_pos e',this];simp [e]
  ·have e':¬x.tx.ins.any (fun i=>decide (i.p=p))=true:=e
   rw [if_neg e']
   simp [e]
 nodup:=by
  rw [List.map_append,List.nodup_append]
  exact ⟨h.nodup,by simp,fun a ha b hb=>by
   simp only [List.map_cons,List.map_nil,List.mem_singleton] at hb
   subst hb
   obtain ⟨y,hy,rfl⟩:=List.mem_map.1 ha
   exact h1 y hy⟩
 apart:=by
  rw [List.pairwise_append]
  exact ⟨h.apart,List.pairwise_singleton _ _,fun y hy z hz p hp=>by
   simp only [List.mem_singleton] at hz
   subst hz
   by_cases e:spends z p=true
   ·rw [h2 y hy p e] at hp;cases hp
   ·simpa using e⟩
 ok:=fun y hy=>by
  rcases List.mem_append.1 hy with h3|h3
  ·exact h.ok y h3
  ·simp only [List.mem_singleton] at h3;subst h3;exact hx
theorem aJn {l:List Ent} {x:Ent} {n:Nat} (hn:(l.map (·.id)).Nodup) (h:n<l.length) (hx:l[n]=x):l.eraseIdx n=l.filter fun y=>!decide (y.id=x.id):=by
 induction l generalizing n with
 |nil=>simp at h
 |cons y l ih=>
  rw [List.map_cons,List.nodup_cons] at hn
  cases n with
  |zero=>
   simp only [List.getElem_cons_zero] at hx
   subst hx
   rw [List.eraseIdx_cons_zero,List.filter_cons_of_neg (by simp)]
   symm
   rw [List.filter_eq_self]
   intro z hz
   simp only [Bool.not_eq_true',decide_eq_false_iff_not]
   intro e
   exact hn.1 (by rw [←e];exact List.mem_map.2 ⟨z,hz,rfl⟩)
  |succ n=>
   simp only [List.getElem_cons_succ] at hx
   have hxl:x∈l:=by rw [←hx];exact gMe _
   rw [List.eraseIdx_cons_succ,List.filter_cons_of_pos,ih hn.2 (by simpa using h) hx]
   simp only [Bool.not_eq_true',decide_eq_false_iff_not]
   intro e
   exact hn.1 (by rw [e];exact List.mem_map.2 ⟨x,hxl,rfl⟩)
theorem bHe {l:List Ent} (h:l.Pairwise fun x y=>∀p,spends x p=true→spends y p=false) (hn:(l.map (·.id)).Nodup) {x y:Ent} (hx:x∈l) (hy:y∈l) (hne:y.id≠x.id) {p:Pt} (hp:spends x p=true):spends y p=false:=by
 induction l with
 |nil=>simp at hx
 |cons z l ih=>
  rw [List.pairwise_cons] at h
  rw [List.map_cons,List.nodup_cons] at hn
  rcases List.mem_cons.1 hx with e1|hx1
  ·rcases List.mem_cons.1 hy with e2|hy1
   ·exact absurd (by rw [e1,e2]) hne
   ·rw [e1] at hp;exact h.1 y hy1 p hp
  ·rcases List.mem_cons.1 hy with e2|hy1
   ·rw [e2]
    by_cases e:spends z p=true
    ·rw [h.1 x hx1 p e] at hp;cases hp
    ·simpa using e
   ·exact ih h.2 hn.2 hx1 hy1
theorem GI.del {m:List (ByteArray × Ent)} {sp:List (Pt × ByteArray)} {l:List Ent} (h:GI m sp l) {x:Ent} (hx:x∈l):GI (kW m x.id) (wS sp x.tx.ins) (l.filter fun y=>!decide (y.id=x.id)) where
 ent:=fun id=>by
  rw [aP5,List.find?_filter,h.ent]
  by_cases e:x.id=id
  ·subst e
   rw [if_pos rfl]
   symm
   exact List.find?_eq_none.2 fun y _=>by simp
  ·rw [if_neg e]
   congr 1;funext y
   by_cases e2:y.id=id
   ·simp [e2,Ne.symm e]
   ·simp [e2]
 spt:=fun p=>by
  rw [aPn,List.find?_filter,h.spt]
  by_cases e:spends x p=true
  ·have e':x.tx.ins.any (fun i=>decide (i.p=p))=true:=e
   rw [if_pos e']
   symm
   have:l.find? (fun y=>decide ((!decide (y.id=x.id))=true∧spends y p=true))=none:=List.find?_eq_none.2 fun y hy=>by
    by_cases e2:y.id=x.id
    ·simp [e2]
    ·simp [bHe h.apart h.nodup hx hy e2 e]
   rw [this];rfl
  ·have e':¬x.tx.ins.any (fun i=>decide (i.p=p))=true:=e
   rw [if_neg e']
   congr 1
   have hd:∀y∈l,spends y p=true→y.id≠x.id:=fun y hy hs hid=>by
    have hyx:y=x:=by
     have hnd:=h.nodup
     clear h e e' hs
     induction l with
     |nil=>simp at hx
     |cons z l ih=>
      rw [List.map_cons,List.nodup_cons] at hnd
      rcases List.mem_cons.1 hx with e1|hx1
      ·rcases List.mem_cons.1 hy with e2|hy1
       ·rw [e1,e2]
       ·exact absurd (List.mem_map.2 ⟨y,hy1,by rw [hid,e1]⟩) hnd.1
      ·rcases List.mem_cons.1 hy with e2|hy1
       ·exact absurd (List.mem_map.2 ⟨x,hx1,by rw [←hid,e2]⟩) hnd.1
       ·exact ih hx1 hy1 hnd.2
    subst hyx;exact e hs
   clear h e e'
   induction l with
   |nil=>rfl
   |cons y l ih=>
    rw [List.find?_cons,List.find?_cons]
    by_cases hs:spends y p=true
    ·have:=hd y (by simp) hs
     simp [hs,this]
    ·simp only [Bool.not_eq_true] at hs
     rw [hs]
     simp only [Bool.false_eq_true,and_false,decide_false]
     by_cases hxl:x∈l
     ·exact ih hxl (fun z hz=>hd z (by simp [hz]))
     ·have hxy:x=y:=by
       rcases List.mem_cons.1 hx with h1|h1
       ·exact h1
       ·exact absurd h1 hxl
      clear ih
      have hd2:∀z∈l,spends z p=true→z.id≠x.id:=fun z hz=>hd z (by simp [hz])
      clear hx hxl hd hxy
      induction l with
      |nil=>rfl
      |cons z l ih2=>
       rw [List.find?_cons,List.find?_cons]
       by_cases hs2:spends z p=true
       ·have:=hd2 z (by simp) hs2
        simp [hs2,this]
       ·simp only [Bool.not_eq_true] at hs2
        rw [hs2]
        simp only [Bool.false_eq_true,and_false,decide_false]
        exact ih2 (fun q hq=>hd2 q (by simp [hq]))
 nodup:=List.Nodup.sublist (List.Sublist.map _ List.filter_sublist) h.nodup
 apart:=h.apart.sublist List.filter_sublist
 ok:=fun y hy=>h.ok y (List.mem_filter.1 hy).1
end
end Go.K
namespace Go.Proofs.YtfebcajheojodaaGreatDoor
section
open Go Go.K
attribute [local irreducible] aO aU bQ KOp.wp K.Spec u32 leS vnS str aV cU cD idT aR aG aX idN dG bD bH spends
def aNb (B:Nat) (M:List Nat) (w:World) (cs:List Value) (x:Ent):Prop:=∃iv ov,cs=bN x iv ov∧cJ inR T.api_In B M w iv x.tx.ins∧cJ eX T.api_Out B M w ov x.tx.outs∧dV x.tx.ver∧dV x.tx.lock∧lJ x.fee∧lJ x.size
theorem aNb.rel {B:Nat} {M:List Nat} {w:World} {cs:List Value} {x:Ent} (h:aNb B M w cs x) (hM:∀b∈M,b<B):bF.rel M w cs x:=by
 obtain ⟨iv,ov,rfl,h1,h2,h3⟩:=h
 exact ⟨iv,ov,rfl,h1.slB hM,h2.slB hM,h3⟩
theorem aNb.ext {B:Nat} {M:List Nat} {w w':World} {cs:List Value} {x:Ent} (h:aNb B M w cs x) (c:Ext w w'):aNb B M w' cs x:=by
 obtain ⟨iv,ov,rfl,h1,h2,h3⟩:=h
 exact ⟨iv,ov,rfl,h1.ext c,h2.ext c,h3⟩
theorem aNb.lower {B B':Nat} {M:List Nat} {w:World} {cs:List Value} {x:Ent} (h:aNb B M w cs x) (hb:B'≤B):aNb B' M w cs x:=by
 obtain ⟨iv,ov,rfl,h1,h2,h3⟩:=h
 exact ⟨iv,ov,rfl,h1.lower hb,h2.lower hb,h3⟩
abbrev aBu:List Value:= [.int .u32 0,.slice none 0 0,.slice none 0 0,.int .u32 0,.string ⟨#[]⟩,.int .i64 0,.int .i64 0]
abbrev dQ (g b1 b2:Nat) (vo:Value):List Nat:=g::b1::b2::aP vo
structure GrP (w:World) (B g b1:Nat) (vo:Value) (b2:Nat) (m:List (ByteArray × Ent)) (sp:List (Pt × ByteArray)) (l:List Ent):Prop where
 at_:At w g (.cells [.map (some b1),vo,.map (some b2)].toArray T.graph_Graph (0,0))
 ents:nG sK bF (dQ g b1 b2 vo) w b1 m
 pts:dW ptK Value.string w b2 sp
 ord:Own bO T.string B w vo (l.map (·.id))
 inv:GI m sp l
 nd:(dQ g b1 b2 vo).Nodup
 lo:B≤g∧B≤b1∧B≤b2
def Gr (w:World) (B g:Nat) (M:List Nat) (l:List Ent):Prop:=∃b1 vo b2 m sp,GrP w B g b1 vo b2 m sp l∧M=dQ g b1 b2 vo
theorem GrP.ext {w w':World} {B g b1 b2:Nat} {vo:Value} {m:List (ByteArray × Ent)} {sp:List (Pt × ByteArray)} {l:List Ent} (h:GrP w B g b1 vo b2 m sp l) (c:Ext w w'):GrP w' B g b1 vo b2 m sp l:=
 ⟨h.at_.ext c,h.ents.ext c,h.pts.ext c,h.ord.ext c,h.inv,h.nd,h.lo⟩
theorem Gr.ext {w w':World} {B g:Nat} {M:List Nat} {l:List Ent} (h:Gr w B g M l) (c:Ext w w'):Gr w' B g M l:=by
 obtain ⟨b1,vo,b2,m,sp,h,e⟩:=h;exact ⟨b1,vo,b2,m,sp,h.ext c,e⟩
theorem Gr.ok {w:World} {B g:Nat} {M:List Nat} {l:List Ent} (h:Gr w B g M l):∀x∈l,EntOk x:=by
 obtain ⟨b1,vo,b2,m,sp,h,e⟩:=h;exact h.inv.ok
theorem Gr.nodup {w:World} {B g:Nat} {M:List Nat} {l:List Ent} (h:Gr w B g M l):(l.map (·.id)).Nodup:=by
 obtain ⟨b1,vo,b2,m,sp,h,e⟩:=h;exact h.inv.nodup
theorem Gr.lt {w:World} {B g:Nat} {M:List Nat} {l:List Ent} (h:Gr w B g M l):∀b∈M,b<w.heap.size:=by
 obtain ⟨b1,vo,b2,m,sp,h,rfl⟩:=h
 intro b hb
 simp only [List.mem_cons] at hb
 rcases hb with rfl|rfl|rfl|hb
 ·exact h.at_.lt
 ·exact h.ents.lt
 ·exact h.pts.lt
 ·rcases h.ord with ⟨e,_⟩|⟨b',cap,junk,e,hB,hat,hl⟩
  ·rw [e] at hb;simp [aP] at hb
  ·rw [e] at hb;simp [aP] at hb;subst hb;exact hat.lt
theorem Gr.base {w:World} {B g:Nat} {M:List Nat} {l:List Ent} (h:Gr w B g M l):∀b∈M,B≤b:=by
 obtain ⟨b1,vo,b2,m,sp,h,rfl⟩:=h
 intro b hb
 have:=h.lo
 simp only [List.mem_cons] at hb
 rcases hb with rfl|rfl|rfl|hb
 ·omega
 ·omega
 ·omega
 ·exact h.ord.base b hb
structure GrQ (w:World) (g b1:Nat) (vo:Value) (b2:Nat) (M:List Nat) (m:List (ByteArray × Ent)) (sp:List (Pt × ByteArray)) (l:List Ent):Prop where
 at_:At w g (.cells [.map (some b1),vo,.map (some b2)].toArray T.graph_Graph (0,0))
 ents:nG sK bF M w b1 m
 pts:dW ptK Value.string w b2 sp
 ord:SlE bO w vo (l.map (·.id))
 inv:GI m sp l
def GrR (w:World) (g:Nat) (M:List Nat) (l:List Ent):Prop:=∃b1 vo b2 m sp,GrQ w g b1 vo b2 M m sp l
theorem Gr.r {w:World} {B g:Nat} {M:List Nat} {l:List Ent} (h:Gr w B g M l):GrR w g M l:=by
 obtain ⟨b1,vo,b2,m,sp,h,rfl⟩:=h
 exact ⟨b1,vo,b2,m,sp,h.at_,h.ents,h.pts,h.ord.sl,h.inv⟩
theorem GrR.more {w w':World} {g:Nat} {M M':List Nat} {l:List Ent} (h:GrR w g M l) (c:Ext w w') (hm:∀b∈M',b∈M∨w.heap.size≤b):GrR w' g M' l:=by
 obtain ⟨b1,vo,b2,m,sp,h⟩:=h
 exact ⟨b1,vo,b2,m,sp,h.at_.ext c,h.ents.step c (by simp) (by simp) hm,h.pts.ext c,h.ord.ext c,h.inv⟩
theorem GrR.ext {w w':World} {g:Nat} {M:List Nat} {l:List Ent} (h:GrR w g M l) (c:Ext w w'):GrR w' g M l:=h.more c (fun _ h=>.inl h)
theorem GrR.ok {w:World} {g:Nat} {M:List Nat} {l:List Ent} (h:GrR w g M l):∀x∈l,EntOk x:=by
 obtain ⟨b1,vo,b2,m,sp,h⟩:=h;exact h.inv.ok
theorem GrR.nodup {w:World} {g:Nat} {M:List Nat} {l:List Ent} (h:GrR w g M l):(l.map (·.id)).Nodup:=by
 obtain ⟨b1,vo,b2,m,sp,h⟩:=h;exact h.inv.nodup
theorem aP3 (w:World):K.Spec Tryz.prog F.graph_New [] w fun r w'=>∃g M,r=.pointer (some ⟨g,0,none⟩)∧Gr w' w.heap.size g M []∧Ext w w':=by
 refine aWy rfl ?_
 unfold aL7
 refine oy ?_
 repeat' (first|refine bL (cs:= [.map (some b1),.slice none 0 0,.map (some b2)]) rfl ?_|refine go1 ?_|refine zg λ_ _=>?_|refine zi λ_ _=>?_|refine zD (cs:= [.map (some b1),.slice none 0 0,.map (some b2)]) rfl rfl (fun bp wp xp ap rp hp0=>?_)|refine kI (d:=some 1) (E:=sK) (fv:=id) (β:=Value) (fun b1 w1 x1 m1 hb1=>?_)|refine kI (d:=some 2) (E:=ptK) (fv:=Value.string) (fun b2 w2 x2 m2 hb2=>?_))
 have l1:=m1.lt
 have l2:=m2.lt
 have lp:=ap.lt
 exact aC rfl ⟨bp,_,rfl,⟨b1,.slice none 0 0,b2, [], [],⟨ap,nG.new (m1.ext (x2.trans xp)),m2.ext xp,Own.nil _ _ _,GI.nil,by simp [aP];omega,by have:=x1.size;have:=x2.size;omega⟩,rfl⟩,by exact fx⟩
def kH (t:Tx) (fee:Int):Int:=if aG t≠0 then aG t else if aX t then 4 else if !bX fee then 3 else 0
theorem aXs {M:List Nat} {cs:List Value} {t:Tx} (w:World) (ht:txR.rel M w cs t) (hs:t.Sm):K.Spec Tryz.prog F.tx_Base [.agg cs.toArray] w fun r w'=>r=.bool (aX t)∧Ext w w':=aP7 w ht hs
set_option maxHeartbeats 1000000 in
theorem aAq {M:List Nat} {cs:List Value} {t:Tx} (fee:Int) (w:World) (ht:txR.rel M w cs t) (hs:t.Sm) (hf:lJ fee) (hM:∀b∈M,b<w.heap.size):K.Spec Tryz.prog F.graph_entry [.agg cs.toArray,.int .i64 fee] w fun r w'=>
  ∃ds,r=.tuple #[.agg ds.toArray,.int .i64 (kH t fee)]∧ds.length=7∧ds.all (fun v=>v.oneCell')=true∧(kH t fee=0→EntOk ⟨t,idT t,fee,(aR t:Nat)⟩∧aNb w.heap.size M w' ds ⟨t,idT t,fee,(aR t:Nat)⟩)∧Ext w w':=by
 have ht0:=ht
 obtain ⟨iv,ov,rfl,h1,h2,h3⟩:=ht
 have key:∀{w6:World} {b4:Nat},Ext w w6→w.heap.size≤b4→txR.rel (b4::M) w6 (aK t iv ov) t:=fun x hb=>txR.step ht0 x (by simp) (by
  intro y hy
  rcases List.mem_cons.1 hy with h|h
  ·right;omega
  ·exact .inl h)
 by_cases hc:aG t=0
 ·have hz:=bI hs hc
  have hzs:=hz.size
  refine aEz rfl ?_
  unfold wZ
  refine oy ?_
  repeat (first|refine go ?_|refine zg λ_ _=>?_|refine zi λ_ _=>?_)
  refine zD rfl rfl (fun bp wp xp ap rp hp0=>?_)
  repeat (first|refine go ?_|refine zg λ_ _=>?_|refine zi λ_ _=>?_)
  refine zH (fun b4 w4 x4 a4 hb4=>?_)
  have sp:=xp.size
  have l4:=a4.lt
  repeat' (first|refine bL (d:=some 18) (cs:=aBu) rfl ?_|refine bL (d:=some 23) (cs:=aBu) rfl ?_|refine bL (d:=some 28) (cs:=aBu) rfl ?_|refine go1 ?_|refine zg λ_ _=>?_|refine zi λ_ _=>?_|refine zM rfl (fun h=>?_) (fun h=>?_)|refine zN rfl (fun h=>?_) (fun h=>?_)|(refine zC rfl (aDn (M:=M) _ (cs:=aK t iv ov) (by exact fx) hs) ?_;rintro _ w5 ⟨rfl,x5⟩;rw [idV,if_pos hc])|(refine zC rfl (aXs (M:=M) _ (cs:=aK t iv ov) (by exact fx) hs) ?_;rintro _ w6 ⟨rfl,x6⟩)|(refine zC rfl (fW (M:=M) _ (cs:=aK t iv ov) (by exact fx) hs) ?_;rintro _ w7 ⟨rfl,x7⟩;rw [lF,if_pos hc])|refine bP (w0:=w) (vs:=aBu) (by exact fx) (by omega) (by focus (repeat (first|assumption|(apply At.ext;assumption)))) rfl rfl rfl rfl rfl (fun w9 x9 c9 a9 r9=>?_))
  ·exact aC (lQ (cL r9 rfl rfl) cX) ⟨aBu,by rw [kH,if_neg (by simpa using hc),if_pos h];rfl,rfl,rfl,fun e=>(by rw [kH,if_neg (by simpa using hc),if_pos h] at e;cases e),x9⟩
  ·exact aC (lQ (cL r9 rfl rfl) cX) ⟨aBu,by rw [kH,if_neg (by simpa using hc),if_neg (by simpa using ‹aX t=false›),if_pos h];rfl,rfl,rfl,fun e=>(by rw [kH,if_neg (by simpa using hc),if_neg (by simpa using ‹aX t=false›),if_pos h] at e;cases e),x9⟩
  ·have hg:aX t=false:=by assumption
   have s47:=Ext.size (w:=w4) (w':=w7) (by exact fx)
   have a4':=At.ext (show Ext w4 w7 by exact fx) a4
   have xw7:Ext w w7:=by exact fx
   refine zC rfl (aB4 (M:=b4::M) (cs:=aK t iv ov) _ (key xw7 (by omega)) hs (fun b hb=>?_)) ?_
   ·rcases List.mem_cons.1 hb with e|e
    ·omega
    ·have:=hM b e;have:=xw7.size;omega
   rintro _ w8 ⟨cs8,rfl,⟨iv8,ov8,rfl,o1,o2,o3⟩,x8⟩
   repeat (first|refine bL (cs:=bN ⟨t,idT t,fee,(aR t:Nat)⟩ iv8 ov8) rfl ?_|refine go1 ?_|refine zg λ_ _=>?_|refine zi λ_ _=>?_)
   have g1:=o1.base
   have g2:=o2.base
   refine bP (w0:=w) (vs:=bN ⟨t,idT t,fee,(aR t:Nat)⟩ iv8 ov8) (xw7.trans x8) (by omega) (At.ext x8 a4') rfl rfl rfl rfl ?_ (fun w9 x9 c9 a9 r9=>?_)
   ·have e1:=o1.one
    have e2:=o2.one
    simp [bN,e1,e2];exact ⟨rfl,rfl,rfl,rfl,rfl⟩
   repeat (first|refine go1 ?_|refine zg λ_ _=>?_|refine zi λ_ _=>?_)
   have h41:b4∉aP iv8:=fun h=>by have:=g1 _ h;omega
   have h42:b4∉aP ov8:=fun h=>by have:=g2 _ h;omega
   have p1:=o1.step (M':=M) c9 (by intro y hy;simp at hy;subst hy;exact ⟨h41,.inl (by simp)⟩) (fun _ h=>.inl (by simp [h]))
   have p2:=o2.step (M':=M) c9 (by intro y hy;simp at hy;subst hy;exact ⟨h42,.inl (by simp)⟩) (fun _ h=>.inl (by simp [h]))
   have hgf:bX fee=true:=by simpa using h
   have e0:kH t fee=0:=by rw [kH,if_neg (by simpa using hc),if_neg (by rw [hg];decide),if_neg (by rw [hgf];decide)]
   rw [e0]
   have s7:=xw7.size
   refine aC (lQ (cL r9 rfl rfl) cX) ⟨_,rfl,rfl,?_,fun _=>⟨⟨hc,hg,hgf,rfl,rfl⟩,iv8,ov8,rfl,p1.lower s7,p2.lower s7,h3.1,h3.2,hf,by show lJ ((aR t:Nat):Int);unfold lJ;omega⟩,x9⟩
   have e1:=o1.one
   have e2:=o2.one
   simp [bN,e1,e2];exact ⟨rfl,rfl,rfl,rfl,rfl⟩
 ·refine aEz rfl ?_
  unfold wZ
  refine oy ?_
  repeat (first|refine go ?_|refine zg λ_ _=>?_|refine zi λ_ _=>?_)
  refine zD rfl rfl (fun bp wp xp ap rp hp0=>?_)
  repeat (first|refine go ?_|refine zg λ_ _=>?_|refine zi λ_ _=>?_)
  refine zH (fun b4 w4 x4 a4 hb4=>?_)
  have sp:=xp.size
  repeat' (first|refine bL (d:=some 18) (cs:=aBu) rfl ?_|refine go1 ?_|refine zg λ_ _=>?_|refine zi λ_ _=>?_|refine zN rfl (fun h=>?_) (fun h=>?_)|(refine zC rfl (aDn (M:=M) _ (cs:=aK t iv ov) (by exact fx) hs) ?_;rintro _ w5 ⟨rfl,x5⟩;rw [idV,if_neg hc])|refine bP (w0:=w) (vs:=aBu) (by exact fx) (by omega) (by focus (repeat (first|assumption|(apply At.ext;assumption)))) rfl rfl rfl rfl rfl (fun w9 x9 c9 a9 r9=>?_))
  ·have e0:kH t fee=aG t:=by rw [kH,if_pos hc]
   rw [e0]
   exact aC (lQ (cL r9 rfl rfl) cX) ⟨aBu,rfl,rfl,rfl,fun e=>absurd e hc,x9⟩
  ·exact absurd (by assumption) hc
end
section
open Go Go.K
attribute [local irreducible] aO aU bQ KOp.wp K.Spec u32 leS vnS str aV cU cD idT aR aG aX idN dG bD bH spends
abbrev dR (l:List Ent) (id:ByteArray):Ent:=(l.find? fun x=>decide (x.id=id)).getD default
abbrev dO (l:List Ent) (id:ByteArray):Bool:=l.any fun x=>decide (x.id=id)
theorem aB6 {α:Type} {p:α→Bool} {l:List α}:(l.find? p).isSome=l.any p:=by
 rw [Bool.eq_iff_iff,List.find?_isSome,List.any_eq_true]
theorem aDh {l:List Ent} {id:ByteArray} {y:Ent} (h:(l.find? fun x=>decide (x.id=id))=some y):dO l id=true∧dR l id=y∧y∈l∧y.id=id:=by
 have h1:=aB6 (p:=fun x:Ent=>decide (x.id=id)) (l:=l)
 rw [h] at h1
 exact ⟨h1.symm,by unfold dR;rw [h];rfl,List.mem_of_find?_eq_some h,by simpa using List.find?_some h⟩
theorem aOd {l:List Ent} {id:ByteArray} (h:(l.find? fun x=>decide (x.id=id))=none):dO l id=false∧dR l id=default:=by
 have h1:=aB6 (p:=fun x:Ent=>decide (x.id=id)) (l:=l)
 rw [h] at h1
 exact ⟨h1.symm,by unfold dR;rw [h];rfl⟩
theorem aN1:dV 0:=by unfold dV;omega
theorem bIn:lJ 0:=by unfold lJ;omega
set_option maxHeartbeats 2000000 in
theorem nR {g:Nat} {M:List Nat} {l:List Ent} (id:ByteArray) (w:World) (hG:GrR w g M l) (hlt:∀b∈M,b<w.heap.size):K.Spec Tryz.prog F.graph_Graph_Get [.pointer (some ⟨g,0,none⟩),.string id] w fun r w'=>
  ∃ds,r=.tuple #[.agg ds.toArray,.bool (dO l id)]∧aNb w.heap.size M w' ds (dR l id)∧Ext w w':=by
 obtain ⟨b1,vo,b2,m,sp,hP⟩:=hG
 have rg:Row w ⟨g,0,none⟩ [.map (some b1),vo,.map (some b2)]:=Row.of_at hP.at_
 have hinv:=hP.inv
 refine vM rfl ?_
 unfold nY
 refine oy ?_
 repeat (first|refine go ?_|refine zg λ_ _=>?_|refine zi λ_ _=>?_)
 refine zH (fun b4 w4 x4 a4 hb4=>?_)
 have l4:=a4.lt
 have hmap:nG sK bF ([b4]++M) w4 b1 m:=hP.ents.step x4 (by simp) (by simp) (vH (fun b hb=>by simp at hb;omega))
 repeat' (first|refine go1 ?_|refine zg λ_ _=>?_|refine zi λ_ _=>?_|refine sP (z:=.agg (bN default (.slice none 0 0) (.slice none 0 0)).toArray) (KE:=sK) (F:=bF) (k:=id) rfl rfl hmap rfl rfl (fun y cs hy hr=>?_) (fun hn=>?_))
 ·rw [hinv.ent] at hy
  obtain ⟨e1,e2,e3,e4⟩:=aDh hy
  rw [e1,e2]
  have hsm:y.tx.Sm:=fE (hinv.ok y e3).check
  obtain ⟨iv,ov,rfl,h1,h2,h3⟩:=hr
  repeat (first|refine go ?_|refine zg λ_ _=>?_|refine zi λ_ _=>?_)
  refine zE (fun _=>rfl) rfl rfl (by show (bN y iv ov).all _=true;simp [bN,h1.one,h2.one];exact ⟨rfl,rfl,rfl,rfl,rfl⟩) (fun b6 w6 x6 a6 (r6:Row w6 ⟨b6,0,none⟩ (bN y iv ov)) hb6=>?_)
  have l6:=a6.lt
  have s4:=x4.size
  have s6:=x6.size
  have hmem:∀b∈ [b6]++([b4]++M),b∈ [b4]++M∨w4.heap.size≤b:=vH (fun b hb=>by simp at hb;omega)
  have h16:SlR inR ([b6]++([b4]++M)) w6 iv y.tx.ins:=h1.step x6 (by simp) hmem
  have h26:SlR eX ([b6]++([b4]++M)) w6 ov y.tx.outs:=h2.step x6 (by simp) hmem
  have hM6:∀b∈ [b6]++([b4]++M),b<w6.heap.size:=fun b hb=>by
   simp only [List.mem_append,List.mem_singleton] at hb
   rcases hb with h|h|h
   ·omega
   ·omega
   ·have:=hlt b h;omega
  repeat (first|refine go ?_|refine zg λ_ _=>?_|refine zi λ_ _=>?_)
  refine zC rfl (aB4 (M:= [b6]++([b4]++M)) (cs:=aK y.tx iv ov) (t:=y.tx) _ ⟨iv,ov,rfl,h16,h26,h3.1,h3.2.1⟩ hsm hM6) ?_
  rintro _ w7 ⟨cs7,rfl,⟨iv7,ov7,rfl,o1,o2,o3⟩,x7⟩
  repeat (first|refine go ?_|refine zg λ_ _=>?_|refine zi λ_ _=>?_)
  have g1:=o1.base
  have g2:=o2.base
  have e1:=o1.one
  have e2:=o2.one
  have s7:=x7.size
  refine aDx (o:=0) (b:=b6) (cur:=bN y iv ov) (vs:=aK y.tx iv7 ov7) rfl rfl rfl (jO (by simp [aK,e1,e2];exact ⟨rfl,rfl⟩)) (At.ext x7 a6) (Nat.le_of_ble_eq_true rfl) (fun w8 c8 a8=>?_)
  have a8:At w8 b6 (.cells (bN y iv7 ov7).toArray T.api_Entry (0,0)):=a8
  have r8:Row w8 ⟨b6,0,none⟩ (bN y iv7 ov7):=Row.of_at a8
  have x8:Unit→Ext w w8:=fun _=>(Ext.chg ((x4.trans x6).trans x7) c8).mono (by intro q hq;simp at hq;right;omega)
  have s8:=c8.size
  have a48:=At.chg c8 (At.ext x7 (At.ext x6 a4)) (by simp;omega)
  have h61:b6∉aP iv7:=fun h=>by have:=g1 _ h;omega
  have h62:b6∉aP ov7:=fun h=>by have:=g2 _ h;omega
  have p1:=o1.step (M':= [b4]++M) c8 (by intro q hq;simp at hq;subst hq;exact ⟨h61,.inl (by simp)⟩) (fun _ h=>.inl (List.mem_append_right _ h))
  have p2:=o2.step (M':= [b4]++M) c8 (by intro q hq;simp at hq;subst hq;exact ⟨h62,.inl (by simp)⟩) (fun _ h=>.inl (List.mem_append_right _ h))
  clear c8 x7 x6
  repeat (first|refine go ?_|refine zg λ_ _=>?_|refine zi λ_ _=>?_)
  refine bP (w0:=w) (vs:=bN y iv7 ov7) (x8 ()) (by omega) a48 rfl rfl rfl rfl (by simp [bN,e1,e2];exact ⟨rfl,rfl,rfl,rfl,rfl⟩) (fun w9 x9 c9 a9 r9=>?_)
  repeat (first|refine go ?_|refine zg λ_ _=>?_|refine zi λ_ _=>?_)
  have h41:b4∉aP iv7:=fun h=>by have:=g1 _ h;omega
  have h42:b4∉aP ov7:=fun h=>by have:=g2 _ h;omega
  have q1:=p1.step (M':=M) c9 (by intro q hq;simp at hq;subst hq;exact ⟨h41,.inl (by simp)⟩) (fun _ h=>.inl (List.mem_append_right _ h))
  have q2:=p2.step (M':=M) c9 (by intro q hq;simp at hq;subst hq;exact ⟨h42,.inl (by simp)⟩) (fun _ h=>.inl (List.mem_append_right _ h))
  exact aC (lQ (cL r9 rfl rfl) cX) ⟨_,rfl,⟨iv7,ov7,rfl,q1.lower (by omega),q2.lower (by omega),h3⟩,x9⟩
 ·rw [hinv.ent] at hn
  obtain ⟨e1,e2⟩:=aOd hn
  rw [e1,e2]
  generalize hy:(default:Ent)=y
  generalize hq:bN y (.slice none 0 0) (.slice none 0 0)=cq
  have hsm:y.tx.Sm:=by subst hy;exact ⟨by decide,by decide,fun x hx=>by cases hx⟩
  obtain ⟨iv,hiv⟩:∃iv:Value,iv=.slice none 0 0:=⟨_,rfl⟩
  obtain ⟨ov,hov⟩:∃ov:Value,ov=.slice none 0 0:=⟨_,rfl⟩
  have h1:SlR inR ([b4]++M) w4 iv y.tx.ins:=by subst hy hiv;exact SlR.nil _ _
  have h2:SlR eX ([b4]++M) w4 ov y.tx.outs:=by subst hy hov;exact SlR.nil _ _
  have h3:dV y.tx.ver∧dV y.tx.lock∧lJ y.fee∧lJ y.size:=by subst hy;exact ⟨aN1,aN1,bIn,bIn⟩
  have hcq:cq=bN y iv ov:=by rw [←hq,hiv,hov]
  rw [hcq]
  clear hy hiv hov hq hcq
  repeat (first|refine go ?_|refine zg λ_ _=>?_|refine zi λ_ _=>?_)
  refine zE (fun _=>rfl) rfl rfl (by show (bN y iv ov).all _=true;simp [bN,h1.one,h2.one];exact ⟨rfl,rfl,rfl,rfl,rfl⟩) (fun b6 w6 x6 a6 (r6:Row w6 ⟨b6,0,none⟩ (bN y iv ov)) hb6=>?_)
  have l6:=a6.lt
  have s4:=x4.size
  have s6:=x6.size
  have hmem:∀b∈ [b6]++([b4]++M),b∈ [b4]++M∨w4.heap.size≤b:=vH (fun b hb=>by simp at hb;omega)
  have h16:SlR inR ([b6]++([b4]++M)) w6 iv y.tx.ins:=h1.step x6 (by simp) hmem
  have h26:SlR eX ([b6]++([b4]++M)) w6 ov y.tx.outs:=h2.step x6 (by simp) hmem
  have hM6:∀b∈ [b6]++([b4]++M),b<w6.heap.size:=fun b hb=>by
   simp only [List.mem_append,List.mem_singleton] at hb
   rcases hb with h|h|h
   ·omega
   ·omega
   ·have:=hlt b h;omega
  repeat (first|refine go ?_|refine zg λ_ _=>?_|refine zi λ_ _=>?_)
  refine zC rfl (aB4 (M:= [b6]++([b4]++M)) (cs:=aK y.tx iv ov) (t:=y.tx) _ ⟨iv,ov,rfl,h16,h26,h3.1,h3.2.1⟩ hsm hM6) ?_
  rintro _ w7 ⟨cs7,rfl,⟨iv7,ov7,rfl,o1,o2,o3⟩,x7⟩
  repeat (first|refine go ?_|refine zg λ_ _=>?_|refine zi λ_ _=>?_)
  have g1:=o1.base
  have g2:=o2.base
  have e1:=o1.one
  have e2:=o2.one
  have s7:=x7.size
  refine aDx (o:=0) (b:=b6) (cur:=bN y iv ov) (vs:=aK y.tx iv7 ov7) rfl rfl rfl (jO (by simp [aK,e1,e2];exact ⟨rfl,rfl⟩)) (At.ext x7 a6) (Nat.le_of_ble_eq_true rfl) (fun w8 c8 a8=>?_)
  have a8:At w8 b6 (.cells (bN y iv7 ov7).toArray T.api_Entry (0,0)):=a8
  have r8:Row w8 ⟨b6,0,none⟩ (bN y iv7 ov7):=Row.of_at a8
  have x8:Unit→Ext w w8:=fun _=>(Ext.chg ((x4.trans x6).trans x7) c8).mono (by intro q hq;simp at hq;right;omega)
  have s8:=c8.size
  have a48:=At.chg c8 (At.ext x7 (At.ext x6 a4)) (by simp;omega)
  have h61:b6∉aP iv7:=fun h=>by have:=g1 _ h;omega
  have h62:b6∉aP ov7:=fun h=>by have:=g2 _ h;omega
  have p1:=o1.step (M':= [b4]++M) c8 (by intro q hq;simp at hq;subst hq;exact ⟨h61,.inl (by simp)⟩) (fun _ h=>.inl (List.mem_append_right _ h))
  have p2:=o2.step (M':= [b4]++M) c8 (by intro q hq;simp at hq;subst hq;exact ⟨h62,.inl (by simp)⟩) (fun _ h=>.inl (List.mem_append_right _ h))
  clear c8 x7 x6
  repeat (first|refine go ?_|refine zg λ_ _=>?_|refine zi λ_ _=>?_)
  refine bP (w0:=w) (vs:=bN y iv7 ov7) (x8 ()) (by omega) a48 rfl rfl rfl rfl (by simp [bN,e1,e2];exact ⟨rfl,rfl,rfl,rfl,rfl⟩) (fun w9 x9 c9 a9 r9=>?_)
  repeat (first|refine go ?_|refine zg λ_ _=>?_|refine zi λ_ _=>?_)
  have h41:b4∉aP iv7:=fun h=>by have:=g1 _ h;omega
  have h42:b4∉aP ov7:=fun h=>by have:=g2 _ h;omega
  have q1:=p1.step (M':=M) c9 (by intro q hq;simp at hq;subst hq;exact ⟨h41,.inl (by simp)⟩) (fun _ h=>.inl (List.mem_append_right _ h))
  have q2:=p2.step (M':=M) c9 (by intro q hq;simp at hq;subst hq;exact ⟨h42,.inl (by simp)⟩) (fun _ h=>.inl (List.mem_append_right _ h))
  exact aC (lQ (cL r9 rfl rfl) cX) ⟨_,rfl,⟨iv7,ov7,rfl,q1.lower (by omega),q2.lower (by omega),h3⟩,x9⟩
end
section
open Go Go.K
attribute [local irreducible] aO aU bQ KOp.wp K.Spec u32 leS vnS str aV cU cD idT aR aG aX idN dG bD bH spends
abbrev spE (l:List Ent) (p:Pt):Option Ent:=l.find? fun x=>spends x p
abbrev uN (l:List Ent) (p:Pt):ByteArray:=((spE l p).map (·.id)).getD ⟨#[]⟩
theorem aIp {g:Nat} {M:List Nat} {l:List Ent} (p:Pt) (w:World) (hG:GrR w g M l):K.Spec Tryz.prog F.graph_Graph_Spender [.pointer (some ⟨g,0,none⟩),.agg p.cs.toArray] w fun r w'=>
  r=.tuple #[.string (uN l p),.bool (spE l p).isSome]∧Ext w w':=by
 obtain ⟨b1,vo,b2,m,sp,hP⟩:=hG
 have rg:Row w ⟨g,0,none⟩ [.map (some b1),vo,.map (some b2)]:=Row.of_at hP.at_
 have hinv:=hP.inv
 refine aBg rfl ?_
 unfold pE
 refine oy ?_
 repeat' (first|refine go1 ?_|refine zg λ_ _=>?_|refine zi λ_ _=>?_|refine zD rfl rfl (fun bp wp xp ap (rp:Row wp ⟨bp,0,none⟩ p.cs) hp0=>?_)|refine mZ (E:=ptK) (fv:=Value.string) (k:=p) rfl rfl (hP.pts.ext (by exact fx)) rfl rfl (fun y hy=>?_) (fun hn=>?_))
 ·rw [hinv.spt] at hy
  obtain ⟨e,he,rfl⟩:=Option.map_eq_some_iff.1 hy
  have e1:uN l p=e.id:=by unfold uN spE;rw [he];rfl
  have e2:(spE l p).isSome=true:=by unfold spE;rw [he];rfl
  rw [e1,e2]
  exact aC rfl ⟨rfl,by exact fx⟩
 ·rw [hinv.spt,Option.map_eq_none_iff] at hn
  have e1:uN l p=⟨#[]⟩:=by unfold uN spE;rw [hn];rfl
  have e2:(spE l p).isSome=false:=by unfold spE;rw [hn];rfl
  rw [e1,e2]
  exact aC rfl ⟨rfl,by exact fx⟩
abbrev dM (l:List Ent) (p:Pt):Bool:=dO l p.s&&decide (p.i<((dR l p.s).tx.outs.length:Int))
theorem aJs {g:Nat} {M:List Nat} {l:List Ent} (p:Pt) (hp:dV p.i) (w:World) (hG:GrR w g M l) (hM:∀b∈M,b<w.heap.size):K.Spec Tryz.prog F.graph_Graph_Out [.pointer (some ⟨g,0,none⟩),.agg p.cs.toArray] w fun r w'=>
  ∃o:TOut,r=.tuple #[.agg (fD o).toArray,.bool (dM l p)]∧(dM l p=true→(dR l p.s).tx.outs[p.i.toNat]? =some o)∧Ext w w':=by
 have hp9:0≤p.i∧p.i<4294967296:=hp
 refine aHg rfl ?_
 unfold vD
 refine oy ?_
 repeat' (first|refine aJ (d:=some 20) (.int .i64 p.i) rfl (congrArg (fun n=>some (Value.int .i64 n)) (aJ4 hp)) ?_|(refine aL (d:=some 33) (E:=eX) (M:= []) rfl (n:=p.i.toNat) (congrArg (Value.int .u32) (by unfold dV at hp;omega)) (l:=(dR l p.s).tx.outs) ((o26.sub (M':= []) (by simp)).sl (by simp)) rfl (by omega) (fun ad cs r7 he=>?_);obtain ⟨rfl,hv7⟩:=he)|refine go1 ?_|refine zg λ_ _=>?_|refine zi λ_ _=>?_|refine zD rfl rfl (fun bp wp xp ap (rp:Row wp ⟨bp,0,none⟩ p.cs) hp0=>?_)|refine zK rfl (fun h=>?_) (fun h=>?_)|refine zL rfl (fun h=>?_) (fun h=>?_)|refine zM rfl (fun h=>?_) (fun h=>?_)|refine zH (d:=some 4) (fun b4 w4 x4 a4 hb4=>?_)|(refine zC rfl (nR (M:=M) p.s _ (hG.ext (by exact fx)) (fun b hb=>nLt (hM b hb) (Ext.size (by exact fx)))) ?_;rintro _ w5 ⟨ds,rfl,⟨iv,ov,rfl,o1,o2,o3⟩,x5⟩;have e1:=o1.one;have e2:=o2.one)|(refine zE (d':=6) (fun _=>rfl) rfl rfl (by show (bN (dR l p.s) iv ov).all _=true;simp [bN,e1,e2];exact ⟨rfl,rfl,rfl,rfl,rfl⟩) (fun b6 w6 x6 a6 (r6:Row w6 ⟨b6,0,none⟩ (bN (dR l p.s) iv ov)) hb6=>?_);have o26:=o2.ext x6)|refine zG (E:=eX) (M:= []) (l:=(dR l p.s).tx.outs) rfl ((o26.sub (M':= []) (by simp)).sl (by simp)) ?_|refine bL (d:=some 27) (cs:=fD ⟨0,⟨#[]⟩⟩) rfl ?_)
 ·have hh:dO l p.s=false:=by simpa using h
  have e:dM l p=false:=by unfold dM;rw [hh];rfl
  rw [e]
  refine bP (w0:=wp) (vs:=fD ⟨0,⟨#[]⟩⟩) (by exact fx) hb4 (by focus (repeat (first|assumption|(apply At.ext;assumption)))) rfl rfl rfl rfl rfl (fun w9 x9 c9 a9 r9=>?_)
  repeat (first|refine go ?_|refine zg λ_ _=>?_|refine zi λ_ _=>?_)
  exact aC (lQ (cL r9 rfl rfl) cX) ⟨⟨0,⟨#[]⟩⟩,rfl,(fun hf=>by cases hf),xp.trans x9⟩
 ·have e:dM l p=false:=by unfold dM;rw [dFa (by omega),Bool.and_false]
  rw [e]
  refine bP (w0:=wp) (vs:=fD ⟨0,⟨#[]⟩⟩) (by exact fx) hb4 (by focus (repeat (first|assumption|(apply At.ext;assumption)))) rfl rfl rfl rfl rfl (fun w9 x9 c9 a9 r9=>?_)
  repeat (first|refine go ?_|refine zg λ_ _=>?_|refine zi λ_ _=>?_)
  exact aC (lQ (cL r9 rfl rfl) cX) ⟨⟨0,⟨#[]⟩⟩,rfl,(fun hf=>by cases hf),xp.trans x9⟩
 ·have hh:dO l p.s=true:=by simpa using ‹(!dO l p.s)=false›
  have e:dM l p=true:=by unfold dM;rw [hh,dTr (by omega)];rfl
  rw [e]
  have hil:p.i.toNat<(dR l p.s).tx.outs.length:=by omega
  refine bP (w0:=wp) (vs:=fD (dR l p.s).tx.outs[p.i.toNat]) (by exact fx) hb4 (by focus (repeat (first|assumption|(apply At.ext;assumption)))) rfl rfl rfl rfl rfl (fun w9 x9 c9 a9 r9=>?_)
  repeat (first|refine go ?_|refine zg λ_ _=>?_|refine zi λ_ _=>?_)
  exact aC (lQ (cL r9 rfl rfl) cX) ⟨_,rfl,fun _=>List.getElem?_eq_getElem hil,xp.trans x9⟩
theorem bC1 {w:World} {g:Nat} {M:List Nat} {l:List Ent} (hG:GrR w g M l) {x:Ent} (hx:x∈l):dR l x.id=x∧dO l x.id=true:=by
 cases h:l.find? fun y=>decide (y.id=x.id) with
 |none=>exact absurd (List.find?_eq_none.1 h x hx) (by simp)
 |some y=>
  obtain ⟨e1,e2,e3,e4⟩:=aDh h
  refine ⟨?_,e1⟩
  rw [e2]
  have hn:=hG.nodup
  clear h e1 e2 hG
  induction l with
  |nil=>simp at hx
  |cons z l ih=>
   rw [List.map_cons,List.nodup_cons] at hn
   rcases List.mem_cons.1 hx with h1|h1
   ·rcases List.mem_cons.1 e3 with h2|h2
    ·rw [h1,h2]
    ·exact absurd (List.mem_map.2 ⟨y,h2,by rw [e4,h1]⟩) hn.1
   ·rcases List.mem_cons.1 e3 with h2|h2
    ·exact absurd (List.mem_map.2 ⟨x,h1,by rw [←e4,h2]⟩) hn.1
    ·exact ih h1 h2 hn.2
def bDv (B:Nat):R Ent where
 k:=7
 pos:=by decide
 ag:=true
 rel:=fun M w cs x=>∃iv ov,cs=bN x iv ov∧cJ inR T.api_In B M w iv x.tx.ins∧cJ eX T.api_Out B M w ov x.tx.outs∧(dV x.tx.ver∧dV x.tx.lock∧lJ x.fee∧lJ x.size)∧∀b∈M,b∉aP iv∧b∉aP ov
 len:=fun ⟨_,_,h,_⟩=>by rw [h];rfl
 one:=fun ⟨iv,ov,h,hi,ho,_⟩ v hv=>by
  have h1:=hi.one
  have h2:=ho.one
  subst h;simp [bN] at hv;rcases hv with rfl|rfl|rfl|rfl|rfl|rfl|rfl<;>first|exact h1|exact h2|rfl
 step:=fun {M M' L w w' _ _} ⟨iv,ov,h,hi,ho,h2,hd⟩ c hL hM=>by
  have k1:∀b∈L,(b∉aP iv∧b∉aP ov)∧(b∈M∨w.heap.size≤b):=fun b hb=>⟨by
   rcases hL b hb with h|h
   ·exact hd b h
   ·exact ⟨fun q=>by have:=hi.lt b q;omega,fun q=>by have:=ho.lt b q;omega⟩,hL b hb⟩
  refine ⟨iv,ov,h,hi.step c (fun b hb=>⟨(k1 b hb).1.1,(k1 b hb).2⟩) hM,ho.step c (fun b hb=>⟨(k1 b hb).1.2,(k1 b hb).2⟩) hM,h2,fun b hb=>?_⟩
  rcases hM b hb with h|h
  ·exact hd b h
  ·exact ⟨fun q=>by have:=hi.lt b q;omega,fun q=>by have:=ho.lt b q;omega⟩
theorem bDv.r {B:Nat} {M:List Nat} {w:World} {cs:List Value} {x:Ent} (h:(bDv B).rel M w cs x):bF.rel M w cs x:=by
 obtain ⟨iv,ov,e,h1,h2,h3,hd⟩:=h
 exact ⟨iv,ov,e,h1.sl fun b hb=>(hd b hb).1,h2.sl fun b hb=>(hd b hb).2,h3⟩
set_option maxHeartbeats 1000000 in
theorem bL2 {g:Nat} {M:List Nat} {l:List Ent} (w:World) (hG:GrR w g M l) (hlt:∀b∈M,b<w.heap.size) (hn:l.length≤100000):K.Spec Tryz.prog F.graph_Graph_All [.pointer (some ⟨g,0,none⟩)] w fun r w'=>cJ (bDv w.heap.size) T.api_Entry w.heap.size M w' r l∧Ext w w':=by
 have hG0:=hG
 obtain ⟨b1,vo,b2,m,sp,hP⟩:=hG
 have rg:Row w ⟨g,0,none⟩ [.map (some b1),vo,.map (some b2)]:=Row.of_at hP.at_
 have hord:=hP.ord
 have hml:(l.map (·.id)).length=l.length:=by simp
 refine vP rfl ?_
 unfold oJ
 refine oy ?_
 repeat' (first|refine go1 ?_|refine zg λ_ _=>?_|refine zi λ_ _=>?_|refine zL rfl (fun h=>?_) (fun h=>?_)|(refine bY rfl (SlE.ext (w:=w) (by exact fx) hord) ?_;rw [hml])|(refine aQ (fun (p:Nat × Value) w'=>Ext w w'∧p.1≤l.length∧cJ (bDv w.heap.size) T.api_Entry w.heap.size M w' p.2 (l.take p.1)) (fun p=> [(0,.pointer (some ⟨g,0,none⟩)),(3,p.2),(13,vo),(14,.int .i64 (l.length:Nat)),(15,.int .i64 p.1)]) (fun p=>l.length - p.1) (0,.slice none 0 0) ⟨rfl,rfl,rfl,rfl,rfl,trivial⟩ ⟨Ext.refl _,by simp,cJ.nil _ _ _ _⟩ ?_;rintro ⟨i,vr⟩ ρ w3 ⟨x3,hi,ho⟩;simp only at hi ho;dsimp only))
 ·have hil:i<l.length:=by omega
  refine aT (d:=some 17) (E:=bO) rfl rfl (n:=i) (l:=l.map (fun x:Ent=>x.id)) (SlE.ext (w:=w) x3 hord) rfl (by omega) (fun ad r4=>?_)
  have r4:Row w3 ad [Value.string l[i].id]:=by simpa [bO] using r4
  have hN:∀b∈aP vr++M,b∈M∨w.heap.size≤b:=vH ho.base
  have hN2:∀b∈aP vr++M,b<w3.heap.size:=fun b hb=>by
   rcases List.mem_append.1 hb with h|h
   ·exact ho.lt b h
   ·exact nLt (hlt b h) x3.size
  repeat' (first|refine go1 ?_|refine zg λ_ _=>?_|refine zi λ_ _=>?_|(refine zC rfl (nR (M:=aP vr++M) l[i].id _ (hG0.more x3 hN) hN2) ?_;rintro _ w5 ⟨ds,rfl,he0,x5⟩;have hge:=(bC1 hG0 (gMe hil)).1;rw [hge] at he0;have hone:=bF.one (he0.rel hN2);obtain ⟨iv,ov,rfl,g1,g2,g3⟩:=he0)|refine zE (d':=6) (fun _=>rfl) rfl rfl (by rw [List.all_eq_true];exact hone) (fun b6 w6 x6 a6 (r6:Row w6 ⟨b6,0,none⟩ (bN l[i] iv ov)) hb6=>?_)|refine zI (cs:=bN l[i] iv ov) rfl (fun b w7 x7 a7 hb=>?_)|(refine iW (E:=bDv w.heap.size) (M:=M) (v:=vr) (cs:=bN l[i] iv ov) (a:=l[i]) rfl rfl (ho.ext (by exact fx)) (Ext.size (w:=w) (by exact fx)) rfl rfl a7 ⟨iv,ov,rfl,(g1.ext (by exact fx)).lower x3.size,(g2.ext (by exact fx)).lower x3.size,g3,fun b hb=>⟨fun h=>absurd (g1.base b h) (by have:=hN2 b hb;omega),fun h=>absurd (g2.base b h) (by have:=hN2 b hb;omega)⟩⟩ (by have:(l.take i).length≤l.length:=(by rw [List.length_take];omega);omega) (fun v8 w8 o8 c8 hb8=>?_)))
  exact ⟨(i+1,v8),⟨rfl,rfl,rfl,rfl,rfl,trivial⟩,⟨(Ext.chg (w:=w) (by exact fx) c8).mono (fun b hb=>.inr (ho.base b hb)),by simp;omega,by show cJ _ _ _ _ _ _ (l.take (i+1));rw [List.take_succ_eq_append_getElem hil];exact o8⟩,by simp;omega⟩
 ·rw [tLe (by omega)] at ho
  exact aC rfl ⟨ho,x3⟩
theorem aJd {g:Nat} {M:List Nat} {l:List Ent} (w:World) (hG:GrR w g M l) (hlt:∀b∈M,b<w.heap.size) (hn:l.length≤100000):K.Spec Tryz.prog F.graph_Graph_All [.pointer (some ⟨g,0,none⟩)] w fun r w'=>cJ bF T.api_Entry w.heap.size M w' r l∧Ext w w':=by
 refine jH (bL2 w hG hlt hn) fun r w' ⟨⟨css,h1,h2⟩,x⟩=>⟨⟨css,h1,h2.mono fun _ _ h=>bDv.r h⟩,x⟩
end
end Go.Proofs.YtfebcajheojodaaGreatDoor
