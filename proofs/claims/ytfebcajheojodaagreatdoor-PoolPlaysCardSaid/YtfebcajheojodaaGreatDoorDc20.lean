/- The engine, part 17: maps of nested data: steps; keys that are texts. Plain: a graph as two maps and an order; the list that they stand for. Contracts: a graph: new, an entry, what it has. Contracts: what a graph answers. Contracts: what a graph answers: spenders, outputs, all entries; parents and children. -/
import Derived.Test.YtfebcajheojodaaGreatDoorDc19
set_option linter.unusedVariables false
set_option linter.unusedSimpArgs false
section
namespace Go.K
open Go
variable {P:Program}
def sK:KEnc ByteArray:=⟨Value.string,false, [.s],by intro a b;simp [keyEq,cellsEq,cellEq],by intro a;rfl⟩
section
variable {κ β:Type} [DecidableEq κ] {KE:KEnc κ} {F:R β} {M:List Nat} {w:World} {d:Option Tmp} {r:KR} {K:Env→World→Prop} {ρ:Env}
theorem st_lookupR {s:Bool} {ks:List CK} {z:Value} {m x:Operand} {b:Nat} {l:List (κ × β)} {k:κ} (hm:ev ρ m=.map (some b)) (hx:ev ρ x=KE.f k) (hM:MapR KE F M w b l) (hs:s=KE.s) (hks:ks=KE.ks)
  (k1:∀y cs,aget l k=some y→F.rel M w cs y→regK P r K (put ρ d (.tuple #[F.val cs,.bool true])) w) (k2:aget l k=none→regK P r K (put ρ d (.tuple #[z,.bool false])) w):regK P (.cons ⟨d,.lookup s ks z true m x,none⟩ r) K ρ w:=by
 obtain ⟨mv,h1,h2⟩:=hM
 have ha:=aget_all (r:=fun v y=>∃cs,v=F.val cs∧F.rel M w cs y) (k:=k) h2
 refine st_lookupOk (E:=KE) (fv:=id) hm hx h1 hs hks (fun v hv=>?_) (fun hv=>?_)
 ·cases hg:aget l k with
  |none=>rw [ha.2 hg] at hv;cases hv
  |some y=>
   obtain ⟨v',e,cs,e2,hr⟩:=ha.1 y hg
   rw [e] at hv;injection hv with hv;subst hv;subst e2
   exact k1 y cs hg hr
 ·cases hg:aget l k with
  |none=>exact k2 hg
  |some y=>
   obtain ⟨v',e,_⟩:=ha.1 y hg
   rw [e] at hv;cases hv
theorem st_lookupR1 {s:Bool} {ks:List CK} {z:Value} {m x:Operand} {b:Nat} {l:List (κ × β)} {k:κ} (hm:ev ρ m=.map (some b)) (hx:ev ρ x=KE.f k) (hM:MapR KE F M w b l) (hs:s=KE.s) (hks:ks=KE.ks)
  (k1:∀y cs,aget l k=some y→F.rel M w cs y→regK P r K (put ρ d (F.val cs)) w) (k2:aget l k=none→regK P r K (put ρ d z) w):regK P (.cons ⟨d,.lookup s ks z false m x,none⟩ r) K ρ w:=by
 obtain ⟨mv,h1,h2⟩:=hM
 have ha:=aget_all (r:=fun v y=>∃cs,v=F.val cs∧F.rel M w cs y) (k:=k) h2
 refine st_lookup (E:=KE) (fv:=id) hm hx h1 hs hks (fun v hv=>?_) (fun hv=>?_)
 ·cases hg:aget l k with
  |none=>rw [ha.2 hg] at hv;cases hv
  |some y=>
   obtain ⟨v',e,cs,e2,hr⟩:=ha.1 y hg
   rw [e] at hv;injection hv with hv;subst hv;subst e2
   exact k1 y cs hg hr
 ·cases hg:aget l k with
  |none=>exact k2 hg
  |some y=>
   obtain ⟨v',e,_⟩:=ha.1 y hg
   rw [e] at hv;cases hv
theorem st_mapUpdateR {s:Bool} {ks:List CK} {m x y:Operand} {b:Nat} {l:List (κ × β)} {k:κ} {v:β} {cs:List Value} (hm:ev ρ m=.map (some b)) (hx:ev ρ x=KE.f k) (hy:ev ρ y=F.val cs) (hM:MapR KE F M w b l) (hr:F.rel M w cs v) (hb:b∈M) (hs:s=KE.s) (hks:ks=KE.ks)
  (kk:∀w',Chg [b] w w'→MapR KE F M w' b (aset l k v)→regK P r K (put ρ d undef) w'):regK P (.cons ⟨d,.mapUpdate s ks m x y,none⟩ r) K ρ w:=by
 obtain ⟨mv,h1,h2⟩:=hM
 refine st_mapUpdate (E:=KE) (fv:=id) (v:=F.val cs) hm hx hy h1 hs hks fun w' c hM'=>kk w' c ⟨_,hM',?_⟩
 have h3:All2 (fun (p:κ × Value) (q:κ × β)=>p.1=q.1∧∃cs,p.2=F.val cs∧F.rel M w' cs q.2) mv l:=h2.mono fun _ _ ⟨e,cs,e2,hr⟩=>⟨e,cs,e2,F.step hr c (by intro y hy;simp at hy;subst hy;exact .inl hb) (fun _ h=>.inl h)⟩
 exact aset_all (r:=fun v y=>∃cs,v=F.val cs∧F.rel M w' cs y) ⟨cs,rfl,F.step hr c (by intro y hy;simp at hy;subst hy;exact .inl hb) (fun _ h=>.inl h)⟩ h3
theorem st_deleteR {s:Bool} {ks:List CK} {m x:Operand} {b:Nat} {l:List (κ × β)} {k:κ} (hm:ev ρ m=.map (some b)) (hx:ev ρ x=KE.f k) (hM:MapR KE F M w b l) (hb:b∈M) (hs:s=KE.s) (hks:ks=KE.ks)
  (kk:∀w',Chg [b] w w'→MapR KE F M w' b (adel l k)→regK P r K (put ρ d (.tuple #[])) w'):regK P (.cons ⟨d,.delete s ks m x,none⟩ r) K ρ w:=by
 obtain ⟨mv,h1,h2⟩:=hM
 refine st_delete (E:=KE) (fv:=id) hm hx h1 hs hks fun w' c hM'=>kk w' c ⟨_,hM',?_⟩
 have h3:All2 (fun (p:κ × Value) (q:κ × β)=>p.1=q.1∧∃cs,p.2=F.val cs∧F.rel M w' cs q.2) mv l:=h2.mono fun _ _ ⟨e,cs,e2,hr⟩=>⟨e,cs,e2,F.step hr c (by intro y hy;simp at hy;subst hy;exact .inl hb) (fun _ h=>.inl h)⟩
 exact adel_all (r:=fun v y=>∃cs,v=F.val cs∧F.rel M w' cs y) h3
theorem MapR.new {b:Nat} (h:MapE KE id w b ([]:List (κ × Value))):MapR KE F M w b []:=⟨[],h,.nil⟩
end
theorem aget_del {κ β:Type} [DecidableEq κ] (m:List (κ × β)) (k k':κ):aget (adel m k) k'=if k=k' then none else aget m k':=by
 unfold aget adel
 rw [List.find?_filter]
 by_cases h:k=k'
 ·subst h
  rw [if_pos rfl]
  have:m.find? (fun p=>decide (decide (p.1≠k)=true∧decide (p.1=k)=true))=none:=List.find?_eq_none.2 fun p _=>by simp
  simp [this]
 ·rw [if_neg h]
  congr 2
  funext p
  by_cases h2:p.1=k'
  ·simp [h2,Ne.symm h]
  ·simp [h2]
end Go.K
end
section
namespace Go.K
open Go
structure GI (m:List (ByteArray × Ent)) (sp:List (Pt × ByteArray)) (l:List Ent):Prop where
 ent:∀id,aget m id=l.find? fun x=>decide (x.id=id)
 spt:∀p,aget sp p=(l.find? fun x=>spends x p).map (·.id)
 nodup:(l.map (·.id)).Nodup
 apart:l.Pairwise fun x y=>∀p,spends x p=true→spends y p=false
 ok:∀x∈l,EntOk x
theorem GI.nil:GI [] [] []:=⟨fun _=>rfl,fun _=>rfl,List.nodup_nil,.nil,fun _ h=>by simp at h⟩
def putPts (sp:List (Pt × ByteArray)) (ins:List TIn) (id:ByteArray):List (Pt × ByteArray):=ins.foldl (fun s x=>aset s x.p id) sp
def delPts (sp:List (Pt × ByteArray)) (ins:List TIn):List (Pt × ByteArray):=ins.foldl (fun s x=>adel s x.p) sp
theorem aget_set' {κ β:Type} [DecidableEq κ] (l:List (κ × β)) (k:κ) (v:β) (k':κ):aget (aset l k v) k'=if k=k' then some v else aget l k':=by
 induction l with
 |nil=>unfold aget aset;by_cases h:k=k'<;>simp [h]
 |cons p l ih=>
  have e:∀(q:κ × β) (m:List (κ × β)),aget (q::m) k'=if q.1=k' then some q.2 else aget m k':=by intro q m;unfold aget;rw [List.find?_cons];by_cases h:q.1=k'<;>simp [h]
  unfold aset
  by_cases h:p.1=k
  ·rw [if_pos h,e,e]
   by_cases h2:k=k'
   ·simp [h2]
   ·rw [if_neg h2,if_neg h2,if_neg (by rw [h];exact h2)]
  ·rw [if_neg h,e,e,ih]
   by_cases h2:p.1=k'
   ·rw [if_pos h2,if_pos h2,if_neg (by rw [←h2];exact fun e=>h e.symm)]
   ·rw [if_neg h2,if_neg h2]
theorem putPts_get (id:ByteArray):∀(ins:List TIn) (sp:List (Pt × ByteArray)) (p:Pt),aget (putPts sp ins id) p=if ins.any (fun i=>decide (i.p=p)) then some id else aget sp p
 | [],sp,p=>by simp [putPts]
 |x::ins,sp,p=>by
  have:=putPts_get id ins (aset sp x.p id) p
  simp only [putPts,List.foldl_cons] at this ⊢
  rw [this,List.any_cons,aget_set']
  by_cases h1:ins.any (fun i=>decide (i.p=p))=true
  ·simp [h1]
  ·simp only [Bool.not_eq_true] at h1
   rw [h1]
   by_cases h2:x.p=p<;>simp [h2]
theorem delPts_get:∀(ins:List TIn) (sp:List (Pt × ByteArray)) (p:Pt),aget (delPts sp ins) p=if ins.any (fun i=>decide (i.p=p)) then none else aget sp p
 | [],sp,p=>by simp [delPts]
 |x::ins,sp,p=>by
  have:=delPts_get ins (adel sp x.p) p
  simp only [delPts,List.foldl_cons] at this ⊢
  rw [this,List.any_cons,aget_del]
  by_cases h1:ins.any (fun i=>decide (i.p=p))=true
  ·simp [h1]
  ·simp only [Bool.not_eq_true] at h1
   rw [h1]
   by_cases h2:x.p=p<;>simp [h2]
theorem putPts_take {sp:List (Pt × ByteArray)} {ins:List TIn} {id:ByteArray} {i:Nat} (h:i<ins.length):putPts sp (ins.take (i+1)) id=aset (putPts sp (ins.take i) id) ins[i].p id:=by
 rw [putPts,putPts,List.take_succ_eq_append_getElem h,List.foldl_append];rfl
theorem delPts_take {sp:List (Pt × ByteArray)} {ins:List TIn} {i:Nat} (h:i<ins.length):delPts sp (ins.take (i+1))=adel (delPts sp (ins.take i)) ins[i].p:=by
 rw [delPts,delPts,List.take_succ_eq_append_getElem h,List.foldl_append];rfl
theorem GI.add {m:List (ByteArray × Ent)} {sp:List (Pt × ByteArray)} {l:List Ent} (h:GI m sp l) {x:Ent} (hx:EntOk x) (h1:∀y∈l,y.id≠x.id) (h2:∀y∈l,∀p,spends x p=true→spends y p=false):GI (aset m x.id x) (putPts sp x.tx.ins x.id) (l++ [x]) where
 ent:=fun id=>by
  rw [aget_set',List.find?_append,h.ent]
  by_cases e:x.id=id
  ·subst e
   have:l.find? (fun y=>decide (y.id=x.id))=none:=List.find?_eq_none.2 fun y hy=>by simpa using h1 y hy
   rw [if_pos rfl,this];simp
  ·rw [if_neg e]
   simp [e]
 spt:=fun p=>by
  rw [putPts_get,List.find?_append,h.spt]
  by_cases e:spends x p=true
  ·have:l.find? (fun y=>spends y p)=none:=List.find?_eq_none.2 fun y hy=>by rw [h2 y hy p e];decide
   have e':x.tx.ins.any (fun i=>decide (i.p=p))=true:=e
   rw [if_pos e',this];simp [e]
  ·have e':¬x.tx.ins.any (fun i=>decide (i.p=p))=true:=e
   rw [if_neg e']
   simp [e]
 nodup:=by
  rw [List.map_append,List.nodup_append]
  exact ⟨h.nodup,by simp,fun a ha b hb=>by
   simp only [List.map_cons,List.map_nil,List.mem_singleton] at hb
   subst hb
   obtain ⟨y,hy,rfl⟩:=List.mem_map.1 ha
   exact h1 y hy⟩
 apart:=by
  rw [List.pairwise_append]
  exact ⟨h.apart,List.pairwise_singleton _ _,fun y hy z hz p hp=>by
   simp only [List.mem_singleton] at hz
   subst hz
   by_cases e:spends z p=true
   ·rw [h2 y hy p e] at hp;cases hp
   ·simpa using e⟩
 ok:=fun y hy=>by
  rcases List.mem_append.1 hy with h3|h3
  ·exact h.ok y h3
  ·simp only [List.mem_singleton] at h3;subst h3;exact hx
theorem erase_filter {l:List Ent} {x:Ent} {n:Nat} (hn:(l.map (·.id)).Nodup) (h:n<l.length) (hx:l[n]=x):l.eraseIdx n=l.filter fun y=>!decide (y.id=x.id):=by
 induction l generalizing n with
 |nil=>simp at h
 |cons y l ih=>
  rw [List.map_cons,List.nodup_cons] at hn
  cases n with
  |zero=>
   simp only [List.getElem_cons_zero] at hx
   subst hx
   rw [List.eraseIdx_cons_zero,List.filter_cons_of_neg (by simp)]
   symm
   rw [List.filter_eq_self]
   intro z hz
   simp only [Bool.not_eq_true',decide_eq_false_iff_not]
   intro e
   exact hn.1 (by rw [←e];exact List.mem_map.2 ⟨z,hz,rfl⟩)
  |succ n=>
   simp only [List.getElem_cons_succ] at hx
   have hxl:x∈l:=by rw [←hx];exact List.getElem_mem _
   rw [List.eraseIdx_cons_succ,List.filter_cons_of_pos,ih hn.2 (by simpa using h) hx]
   simp only [Bool.not_eq_true',decide_eq_false_iff_not]
   intro e
   exact hn.1 (by rw [e];exact List.mem_map.2 ⟨x,hxl,rfl⟩)
theorem apart_of {l:List Ent} (h:l.Pairwise fun x y=>∀p,spends x p=true→spends y p=false) (hn:(l.map (·.id)).Nodup) {x y:Ent} (hx:x∈l) (hy:y∈l) (hne:y.id≠x.id) {p:Pt} (hp:spends x p=true):spends y p=false:=by
 induction l with
 |nil=>simp at hx
 |cons z l ih=>
  rw [List.pairwise_cons] at h
  rw [List.map_cons,List.nodup_cons] at hn
  rcases List.mem_cons.1 hx with e1|hx1
  ·rcases List.mem_cons.1 hy with e2|hy1
   ·exact absurd (by rw [e1,e2]) hne
   ·rw [e1] at hp;exact h.1 y hy1 p hp
  ·rcases List.mem_cons.1 hy with e2|hy1
   ·rw [e2]
    by_cases e:spends z p=true
    ·rw [h.1 x hx1 p e] at hp;cases hp
    ·simpa using e
   ·exact ih h.2 hn.2 hx1 hy1
theorem GI.del {m:List (ByteArray × Ent)} {sp:List (Pt × ByteArray)} {l:List Ent} (h:GI m sp l) {x:Ent} (hx:x∈l):GI (adel m x.id) (delPts sp x.tx.ins) (l.filter fun y=>!decide (y.id=x.id)) where
 ent:=fun id=>by
  rw [aget_del,List.find?_filter,h.ent]
  by_cases e:x.id=id
  ·subst e
   rw [if_pos rfl]
   symm
   exact List.find?_eq_none.2 fun y _=>by simp
  ·rw [if_neg e]
   congr 1;funext y
   by_cases e2:y.id=id
   ·simp [e2,Ne.symm e]
   ·simp [e2]
 spt:=fun p=>by
  rw [delPts_get,List.find?_filter,h.spt]
  by_cases e:spends x p=true
  ·have e':x.tx.ins.any (fun i=>decide (i.p=p))=true:=e
   rw [if_pos e']
   symm
   have:l.find? (fun y=>decide ((!decide (y.id=x.id))=true∧spends y p=true))=none:=List.find?_eq_none.2 fun y hy=>by
    by_cases e2:y.id=x.id
    ·simp [e2]
    ·simp [apart_of h.apart h.nodup hx hy e2 e]
   rw [this];rfl
  ·have e':¬x.tx.ins.any (fun i=>decide (i.p=p))=true:=e
   rw [if_neg e']
   congr 1
   have hd:∀y∈l,spends y p=true→y.id≠x.id:=fun y hy hs hid=>by
    have hyx:y=x:=by
     have hnd:=h.nodup
     clear h e e' hs
     induction l with
     |nil=>simp at hx
     |cons z l ih=>
      rw [List.map_cons,List.nodup_cons] at hnd
      rcases List.mem_cons.1 hx with e1|hx1
      ·rcases List.mem_cons.1 hy with e2|hy1
       ·rw [e1,e2]
       ·exact absurd (List.mem_map.2 ⟨y,hy1,by rw [hid,e1]⟩) hnd.1
      ·rcases List.mem_cons.1 hy with e2|hy1
       ·exact absurd (List.mem_map.2 ⟨x,hx1,by rw [←hid,e2]⟩) hnd.1
       ·exact ih hx1 hy1 hnd.2
    subst hyx;exact e hs
   clear h e e'
   induction l with
   |nil=>rfl
   |cons y l ih=>
    rw [List.find?_cons,List.find?_cons]
    by_cases hs:spends y p=true
    ·have:=hd y (by simp) hs
     simp [hs,this]
    ·simp only [Bool.not_eq_true] at hs
     rw [hs]
     simp only [Bool.false_eq_true,and_false,decide_false]
     by_cases hxl:x∈l
     ·exact ih hxl (fun z hz=>hd z (by simp [hz]))
     ·have hxy:x=y:=by
       rcases List.mem_cons.1 hx with h1|h1
       ·exact h1
       ·exact absurd h1 hxl
      clear ih
      have hd2:∀z∈l,spends z p=true→z.id≠x.id:=fun z hz=>hd z (by simp [hz])
      clear hx hxl hd hxy
      induction l with
      |nil=>rfl
      |cons z l ih2=>
       rw [List.find?_cons,List.find?_cons]
       by_cases hs2:spends z p=true
       ·have:=hd2 z (by simp) hs2
        simp [hs2,this]
       ·simp only [Bool.not_eq_true] at hs2
        rw [hs2]
        simp only [Bool.false_eq_true,and_false,decide_false]
        exact ih2 (fun q hq=>hd2 q (by simp [hq]))
 nodup:=List.Nodup.sublist (List.Sublist.map _ List.filter_sublist) h.nodup
 apart:=h.apart.sublist List.filter_sublist
 ok:=fun y hy=>h.ok y (List.mem_filter.1 hy).1
end Go.K
end
section
namespace Go.Proofs.YtfebcajheojodaaGreatDoor
open Go Go.K
attribute [local irreducible] regK codeK retK KOp.wp K.Spec u32 leS vnS str zero32 sha2 encT idT sizeT checkT grantB idN hangs stepR findI spends
def entO (B:Nat) (M:List Nat) (w:World) (cs:List Value) (x:Ent):Prop:=∃iv ov,cs=entCs x iv ov∧OwnR inR T.api_In B M w iv x.tx.ins∧OwnR outR T.api_Out B M w ov x.tx.outs∧is32 x.tx.ver∧is32 x.tx.lock∧is64 x.fee∧is64 x.size
theorem entO.rel {B:Nat} {M:List Nat} {w:World} {cs:List Value} {x:Ent} (h:entO B M w cs x) (hM:∀b∈M,b<B):entR.rel M w cs x:=by
 obtain ⟨iv,ov,rfl,h1,h2,h3⟩:=h
 exact ⟨iv,ov,rfl,h1.slB hM,h2.slB hM,h3⟩
theorem entO.ext {B:Nat} {M:List Nat} {w w':World} {cs:List Value} {x:Ent} (h:entO B M w cs x) (c:Ext w w'):entO B M w' cs x:=by
 obtain ⟨iv,ov,rfl,h1,h2,h3⟩:=h
 exact ⟨iv,ov,rfl,h1.ext c,h2.ext c,h3⟩
theorem entO.lower {B B':Nat} {M:List Nat} {w:World} {cs:List Value} {x:Ent} (h:entO B M w cs x) (hb:B'≤B):entO B' M w cs x:=by
 obtain ⟨iv,ov,rfl,h1,h2,h3⟩:=h
 exact ⟨iv,ov,rfl,h1.lower hb,h2.lower hb,h3⟩
abbrev zEnt:List Value:= [.int .u32 0,.slice none 0 0,.slice none 0 0,.int .u32 0,.string ⟨#[]⟩,.int .i64 0,.int .i64 0]
abbrev mutG (g b1 b2:Nat) (vo:Value):List Nat:=g::b1::b2::blkOf vo
structure GrP (w:World) (B g b1:Nat) (vo:Value) (b2:Nat) (m:List (ByteArray × Ent)) (sp:List (Pt × ByteArray)) (l:List Ent):Prop where
 at_:At w g (.cells [.map (some b1),vo,.map (some b2)].toArray T.graph_Graph (0,0))
 ents:MapR sK entR (mutG g b1 b2 vo) w b1 m
 pts:MapE ptK Value.string w b2 sp
 ord:Own strE T.string B w vo (l.map (·.id))
 inv:GI m sp l
 nd:(mutG g b1 b2 vo).Nodup
 lo:B≤g∧B≤b1∧B≤b2
def Gr (w:World) (B g:Nat) (M:List Nat) (l:List Ent):Prop:=∃b1 vo b2 m sp,GrP w B g b1 vo b2 m sp l∧M=mutG g b1 b2 vo
theorem GrP.ext {w w':World} {B g b1 b2:Nat} {vo:Value} {m:List (ByteArray × Ent)} {sp:List (Pt × ByteArray)} {l:List Ent} (h:GrP w B g b1 vo b2 m sp l) (c:Ext w w'):GrP w' B g b1 vo b2 m sp l:=
 ⟨h.at_.ext c,h.ents.ext c,h.pts.ext c,h.ord.ext c,h.inv,h.nd,h.lo⟩
theorem Gr.ext {w w':World} {B g:Nat} {M:List Nat} {l:List Ent} (h:Gr w B g M l) (c:Ext w w'):Gr w' B g M l:=by
 obtain ⟨b1,vo,b2,m,sp,h,e⟩:=h;exact ⟨b1,vo,b2,m,sp,h.ext c,e⟩
theorem Gr.ok {w:World} {B g:Nat} {M:List Nat} {l:List Ent} (h:Gr w B g M l):∀x∈l,EntOk x:=by
 obtain ⟨b1,vo,b2,m,sp,h,e⟩:=h;exact h.inv.ok
theorem Gr.nodup {w:World} {B g:Nat} {M:List Nat} {l:List Ent} (h:Gr w B g M l):(l.map (·.id)).Nodup:=by
 obtain ⟨b1,vo,b2,m,sp,h,e⟩:=h;exact h.inv.nodup
theorem Gr.lt {w:World} {B g:Nat} {M:List Nat} {l:List Ent} (h:Gr w B g M l):∀b∈M,b<w.heap.size:=by
 obtain ⟨b1,vo,b2,m,sp,h,rfl⟩:=h
 intro b hb
 simp only [List.mem_cons] at hb
 rcases hb with rfl|rfl|rfl|hb
 ·exact h.at_.lt
 ·exact h.ents.lt
 ·exact h.pts.lt
 ·rcases h.ord with ⟨e,_⟩|⟨b',cap,junk,e,hB,hat,hl⟩
  ·rw [e] at hb;simp [blkOf] at hb
  ·rw [e] at hb;simp [blkOf] at hb;subst hb;exact hat.lt
theorem Gr.base {w:World} {B g:Nat} {M:List Nat} {l:List Ent} (h:Gr w B g M l):∀b∈M,B≤b:=by
 obtain ⟨b1,vo,b2,m,sp,h,rfl⟩:=h
 intro b hb
 have:=h.lo
 simp only [List.mem_cons] at hb
 rcases hb with rfl|rfl|rfl|hb
 ·omega
 ·omega
 ·omega
 ·exact h.ord.base b hb
structure GrQ (w:World) (g b1:Nat) (vo:Value) (b2:Nat) (M:List Nat) (m:List (ByteArray × Ent)) (sp:List (Pt × ByteArray)) (l:List Ent):Prop where
 at_:At w g (.cells [.map (some b1),vo,.map (some b2)].toArray T.graph_Graph (0,0))
 ents:MapR sK entR M w b1 m
 pts:MapE ptK Value.string w b2 sp
 ord:SlE strE w vo (l.map (·.id))
 inv:GI m sp l
def GrR (w:World) (g:Nat) (M:List Nat) (l:List Ent):Prop:=∃b1 vo b2 m sp,GrQ w g b1 vo b2 M m sp l
theorem Gr.r {w:World} {B g:Nat} {M:List Nat} {l:List Ent} (h:Gr w B g M l):GrR w g M l:=by
 obtain ⟨b1,vo,b2,m,sp,h,rfl⟩:=h
 exact ⟨b1,vo,b2,m,sp,h.at_,h.ents,h.pts,h.ord.sl,h.inv⟩
theorem GrR.more {w w':World} {g:Nat} {M M':List Nat} {l:List Ent} (h:GrR w g M l) (c:Ext w w') (hm:∀b∈M',b∈M∨w.heap.size≤b):GrR w' g M' l:=by
 obtain ⟨b1,vo,b2,m,sp,h⟩:=h
 exact ⟨b1,vo,b2,m,sp,h.at_.ext c,h.ents.step c (by simp) (by simp) hm,h.pts.ext c,h.ord.ext c,h.inv⟩
theorem GrR.ext {w w':World} {g:Nat} {M:List Nat} {l:List Ent} (h:GrR w g M l) (c:Ext w w'):GrR w' g M l:=h.more c (fun _ h=>.inl h)
theorem GrR.ok {w:World} {g:Nat} {M:List Nat} {l:List Ent} (h:GrR w g M l):∀x∈l,EntOk x:=by
 obtain ⟨b1,vo,b2,m,sp,h⟩:=h;exact h.inv.ok
theorem GrR.nodup {w:World} {g:Nat} {M:List Nat} {l:List Ent} (h:GrR w g M l):(l.map (·.id)).Nodup:=by
 obtain ⟨b1,vo,b2,m,sp,h⟩:=h;exact h.inv.nodup
theorem new_spec (w:World):K.Spec Tryz.prog F.graph_New [] w fun r w'=>∃g M,r=.pointer (some ⟨g,0,none⟩)∧Gr w' w.heap.size g M []∧Ext w w':=by
 refine s_graph_New rfl ?_
 unfold k_graph_New
 refine oy ?_
 repeat' (first|(refine st_build (cs:= [.map (some b1),.slice none 0 0,.map (some b2)]) rfl ?_)|(first|refine go1 ?_|refine zg (fun _ _=>?_)|refine zi (fun _ _=>?_))|(refine zD (cs:= [.map (some b1),.slice none 0 0,.map (some b2)]) rfl rfl (fun bp wp xp ap rp hp0=>?_))|(refine st_makeMap (d:=some 1) (E:=sK) (fv:=id) (β:=Value) (fun b1 w1 x1 m1 hb1=>?_))|(refine st_makeMap (d:=some 2) (E:=ptK) (fv:=Value.string) (fun b2 w2 x2 m2 hb2=>?_)))
 have l1:=m1.lt
 have l2:=m2.lt
 have lp:=ap.lt
 exact x_ret rfl ⟨bp,_,rfl,⟨b1,.slice none 0 0,b2, [], [],⟨ap,MapR.new (m1.ext (x2.trans xp)),m2.ext xp,Own.nil _ _ _,GI.nil,by simp [blkOf];omega,by have:=x1.size;have:=x2.size;omega⟩,rfl⟩,by exact fx⟩
def entErr (t:Tx) (fee:Int):Int:=if checkT t≠0 then checkT t else if grantB t then 4 else if !goodB fee then 3 else 0
theorem tbase_spec' {M:List Nat} {cs:List Value} {t:Tx} (w:World) (ht:txR.rel M w cs t) (hs:t.Sm):K.Spec Tryz.prog F.tx_Base [.agg cs.toArray] w fun r w'=>r=.bool (grantB t)∧Ext w w':=tbase_spec w ht hs
set_option maxHeartbeats 1000000 in
theorem entry_spec {M:List Nat} {cs:List Value} {t:Tx} (fee:Int) (w:World) (ht:txR.rel M w cs t) (hs:t.Sm) (hf:is64 fee) (hM:∀b∈M,b<w.heap.size):K.Spec Tryz.prog F.graph_entry [.agg cs.toArray,.int .i64 fee] w fun r w'=>
  ∃ds,r=.tuple #[.agg ds.toArray,.int .i64 (entErr t fee)]∧ds.length=7∧ds.all (fun v=>v.oneCell')=true∧(entErr t fee=0→EntOk ⟨t,idT t,fee,(sizeT t:Nat)⟩∧entO w.heap.size M w' ds ⟨t,idT t,fee,(sizeT t:Nat)⟩)∧Ext w w':=by
 have ht0:=ht
 obtain ⟨iv,ov,rfl,h1,h2,h3⟩:=ht
 have key:∀{w6:World} {b4:Nat},Ext w w6→w.heap.size≤b4→txR.rel (b4::M) w6 (txCs t iv ov) t:=fun x hb=>txR.step ht0 x (by simp) (by
  intro y hy
  rcases List.mem_cons.1 hy with h|h
  ·right;omega
  ·exact .inl h)
 by_cases hc:checkT t=0
 ·have hz:=sz_of_check hs hc
  have hzs:=hz.size
  refine s_graph_entry rfl ?_
  unfold k_graph_entry
  refine oy ?_
  repeat (first|refine go ?_|refine zg (fun _ _=>?_)|refine zi (fun _ _=>?_))
  refine zD rfl rfl (fun bp wp xp ap rp hp0=>?_)
  repeat (first|refine go ?_|refine zg (fun _ _=>?_)|refine zi (fun _ _=>?_))
  refine zH (fun b4 w4 x4 a4 hb4=>?_)
  have sp:=xp.size
  have l4:=a4.lt
  repeat' (first|(refine st_build (d:=some 18) (cs:=zEnt) rfl ?_)|(refine st_build (d:=some 23) (cs:=zEnt) rfl ?_)|(refine st_build (d:=some 28) (cs:=zEnt) rfl ?_)|(first|refine go1 ?_|refine zg (fun _ _=>?_)|refine zi (fun _ _=>?_))|refine zM rfl (fun h=>?_) (fun h=>?_)|refine zN rfl (fun h=>?_) (fun h=>?_)|(refine zC rfl (id_spec (M:=M) _ (cs:=txCs t iv ov) (by exact fx) hs) ?_;rintro _ w5 ⟨rfl,x5⟩;rw [idV,if_pos hc])|(refine zC rfl (tbase_spec' (M:=M) _ (cs:=txCs t iv ov) (by exact fx) hs) ?_;rintro _ w6 ⟨rfl,x6⟩)|(refine zC rfl (size_spec (M:=M) _ (cs:=txCs t iv ov) (by exact fx) hs) ?_;rintro _ w7 ⟨rfl,x7⟩;rw [sizeV,if_pos hc])|(refine st_setN (w0:=w) (vs:=zEnt) (by exact fx) (by omega) (by focus (repeat (first|assumption|(apply At.ext;assumption)))) rfl rfl rfl rfl rfl (fun w9 x9 c9 a9 r9=>?_)))
  ·exact x_ret (ret2 (rv_cell r9 rfl rfl) rv_tmp) ⟨zEnt,by rw [entErr,if_neg (by simpa using hc),if_pos h];rfl,rfl,rfl,fun e=>(by rw [entErr,if_neg (by simpa using hc),if_pos h] at e;cases e),x9⟩
  ·exact x_ret (ret2 (rv_cell r9 rfl rfl) rv_tmp) ⟨zEnt,by rw [entErr,if_neg (by simpa using hc),if_neg (by simpa using ‹grantB t=false›),if_pos h];rfl,rfl,rfl,fun e=>(by rw [entErr,if_neg (by simpa using hc),if_neg (by simpa using ‹grantB t=false›),if_pos h] at e;cases e),x9⟩
  ·have hg:grantB t=false:=by assumption
   have s47:=Ext.size (w:=w4) (w':=w7) (by exact fx)
   have a4':=At.ext (show Ext w4 w7 by exact fx) a4
   have xw7:Ext w w7:=by exact fx
   refine zC rfl (txcopy_spec (M:=b4::M) (cs:=txCs t iv ov) _ (key xw7 (by omega)) hs (fun b hb=>?_)) ?_
   ·rcases List.mem_cons.1 hb with e|e
    ·omega
    ·have:=hM b e;have:=xw7.size;omega
   rintro _ w8 ⟨cs8,rfl,⟨iv8,ov8,rfl,o1,o2,o3⟩,x8⟩
   repeat (first|(refine st_build (cs:=entCs ⟨t,idT t,fee,(sizeT t:Nat)⟩ iv8 ov8) rfl ?_)|(first|refine go1 ?_|refine zg (fun _ _=>?_)|refine zi (fun _ _=>?_)))
   have g1:=o1.base
   have g2:=o2.base
   refine st_setN (w0:=w) (vs:=entCs ⟨t,idT t,fee,(sizeT t:Nat)⟩ iv8 ov8) (xw7.trans x8) (by omega) (At.ext x8 a4') rfl rfl rfl rfl ?_ (fun w9 x9 c9 a9 r9=>?_)
   ·have e1:=o1.one
    have e2:=o2.one
    simp [entCs,e1,e2];exact ⟨rfl,rfl,rfl,rfl,rfl⟩
   repeat (first|refine go1 ?_|refine zg (fun _ _=>?_)|refine zi (fun _ _=>?_))
   have h41:b4∉blkOf iv8:=fun h=>by have:=g1 _ h;omega
   have h42:b4∉blkOf ov8:=fun h=>by have:=g2 _ h;omega
   have p1:=o1.step (M':=M) c9 (by intro y hy;simp at hy;subst hy;exact ⟨h41,.inl (by simp)⟩) (fun _ h=>.inl (by simp [h]))
   have p2:=o2.step (M':=M) c9 (by intro y hy;simp at hy;subst hy;exact ⟨h42,.inl (by simp)⟩) (fun _ h=>.inl (by simp [h]))
   have hgf:goodB fee=true:=by simpa using h
   have e0:entErr t fee=0:=by rw [entErr,if_neg (by simpa using hc),if_neg (by rw [hg];decide),if_neg (by rw [hgf];decide)]
   rw [e0]
   have s7:=xw7.size
   refine x_ret (ret2 (rv_cell r9 rfl rfl) rv_tmp) ⟨_,rfl,rfl,?_,fun _=>⟨⟨hc,hg,hgf,rfl,rfl⟩,iv8,ov8,rfl,p1.lower s7,p2.lower s7,h3.1,h3.2,hf,by show is64 ((sizeT t:Nat):Int);unfold is64;omega⟩,x9⟩
   have e1:=o1.one
   have e2:=o2.one
   simp [entCs,e1,e2];exact ⟨rfl,rfl,rfl,rfl,rfl⟩
 ·refine s_graph_entry rfl ?_
  unfold k_graph_entry
  refine oy ?_
  repeat (first|refine go ?_|refine zg (fun _ _=>?_)|refine zi (fun _ _=>?_))
  refine zD rfl rfl (fun bp wp xp ap rp hp0=>?_)
  repeat (first|refine go ?_|refine zg (fun _ _=>?_)|refine zi (fun _ _=>?_))
  refine zH (fun b4 w4 x4 a4 hb4=>?_)
  have sp:=xp.size
  repeat' (first|(refine st_build (d:=some 18) (cs:=zEnt) rfl ?_)|(first|refine go1 ?_|refine zg (fun _ _=>?_)|refine zi (fun _ _=>?_))|refine zN rfl (fun h=>?_) (fun h=>?_)|(refine zC rfl (id_spec (M:=M) _ (cs:=txCs t iv ov) (by exact fx) hs) ?_;rintro _ w5 ⟨rfl,x5⟩;rw [idV,if_neg hc])|(refine st_setN (w0:=w) (vs:=zEnt) (by exact fx) (by omega) (by focus (repeat (first|assumption|(apply At.ext;assumption)))) rfl rfl rfl rfl rfl (fun w9 x9 c9 a9 r9=>?_)))
  ·have e0:entErr t fee=checkT t:=by rw [entErr,if_pos hc]
   rw [e0]
   exact x_ret (ret2 (rv_cell r9 rfl rfl) rv_tmp) ⟨zEnt,rfl,rfl,rfl,fun e=>absurd e hc,x9⟩
  ·exact absurd (by assumption) hc
end Go.Proofs.YtfebcajheojodaaGreatDoor
end
section
namespace Go.Proofs.YtfebcajheojodaaGreatDoor
open Go Go.K
attribute [local irreducible] regK codeK retK KOp.wp K.Spec u32 leS vnS str zero32 sha2 encT idT sizeT checkT grantB idN hangs stepR findI spends
abbrev getE (l:List Ent) (id:ByteArray):Ent:=(l.find? fun x=>decide (x.id=id)).getD default
abbrev hasE (l:List Ent) (id:ByteArray):Bool:=l.any fun x=>decide (x.id=id)
theorem find_any {α:Type} {p:α→Bool} {l:List α}:(l.find? p).isSome=l.any p:=by
 rw [Bool.eq_iff_iff,List.find?_isSome,List.any_eq_true]
theorem has_some {l:List Ent} {id:ByteArray} {y:Ent} (h:(l.find? fun x=>decide (x.id=id))=some y):hasE l id=true∧getE l id=y∧y∈l∧y.id=id:=by
 have h1:=find_any (p:=fun x:Ent=>decide (x.id=id)) (l:=l)
 rw [h] at h1
 exact ⟨h1.symm,by unfold getE;rw [h];rfl,List.mem_of_find?_eq_some h,by simpa using List.find?_some h⟩
theorem has_none {l:List Ent} {id:ByteArray} (h:(l.find? fun x=>decide (x.id=id))=none):hasE l id=false∧getE l id=default:=by
 have h1:=find_any (p:=fun x:Ent=>decide (x.id=id)) (l:=l)
 rw [h] at h1
 exact ⟨h1.symm,by unfold getE;rw [h];rfl⟩
theorem is32_0:is32 0:=by unfold is32;omega
theorem is64_0:is64 0:=by unfold is64;omega
set_option maxHeartbeats 2000000 in
theorem get_spec {g:Nat} {M:List Nat} {l:List Ent} (id:ByteArray) (w:World) (hG:GrR w g M l) (hlt:∀b∈M,b<w.heap.size):K.Spec Tryz.prog F.graph_Graph_Get [.pointer (some ⟨g,0,none⟩),.string id] w fun r w'=>
  ∃ds,r=.tuple #[.agg ds.toArray,.bool (hasE l id)]∧entO w.heap.size M w' ds (getE l id)∧Ext w w':=by
 obtain ⟨b1,vo,b2,m,sp,hP⟩:=hG
 have rg:Row w ⟨g,0,none⟩ [.map (some b1),vo,.map (some b2)]:=Row.of_at hP.at_
 have hinv:=hP.inv
 refine s_graph_Graph_Get rfl ?_
 unfold k_graph_Graph_Get
 refine oy ?_
 repeat (first|refine go ?_|refine zg (fun _ _=>?_)|refine zi (fun _ _=>?_))
 refine zH (fun b4 w4 x4 a4 hb4=>?_)
 have l4:=a4.lt
 have hmap:MapR sK entR ([b4]++M) w4 b1 m:=hP.ents.step x4 (by simp) (by simp) (mem_app (fun b hb=>by simp at hb;omega))
 repeat' (first|(first|refine go1 ?_|refine zg (fun _ _=>?_)|refine zi (fun _ _=>?_))|(refine st_lookupR (z:=.agg (entCs default (.slice none 0 0) (.slice none 0 0)).toArray) (KE:=sK) (F:=entR) (k:=id) rfl rfl hmap rfl rfl (fun y cs hy hr=>?_) (fun hn=>?_)))
 ·rw [hinv.ent] at hy
  obtain ⟨e1,e2,e3,e4⟩:=has_some hy
  rw [e1,e2]
  have hsm:y.tx.Sm:=chk_sm (hinv.ok y e3).check
  obtain ⟨iv,ov,rfl,h1,h2,h3⟩:=hr
  repeat (first|refine go ?_|refine zg (fun _ _=>?_)|refine zi (fun _ _=>?_))
  refine zE (fun _=>rfl) rfl rfl (by show (entCs y iv ov).all _=true;simp [entCs,h1.one,h2.one];exact ⟨rfl,rfl,rfl,rfl,rfl⟩) (fun b6 w6 x6 a6 (r6:Row w6 ⟨b6,0,none⟩ (entCs y iv ov)) hb6=>?_)
  have l6:=a6.lt
  have s4:=x4.size
  have s6:=x6.size
  have hmem:∀b∈ [b6]++([b4]++M),b∈ [b4]++M∨w4.heap.size≤b:=mem_app (fun b hb=>by simp at hb;omega)
  have h16:SlR inR ([b6]++([b4]++M)) w6 iv y.tx.ins:=h1.step x6 (by simp) hmem
  have h26:SlR outR ([b6]++([b4]++M)) w6 ov y.tx.outs:=h2.step x6 (by simp) hmem
  have hM6:∀b∈ [b6]++([b4]++M),b<w6.heap.size:=fun b hb=>by
   simp only [List.mem_append,List.mem_singleton] at hb
   rcases hb with h|h|h
   ·omega
   ·omega
   ·have:=hlt b h;omega
  repeat (first|refine go ?_|refine zg (fun _ _=>?_)|refine zi (fun _ _=>?_))
  refine zC rfl (txcopy_spec (M:= [b6]++([b4]++M)) (cs:=txCs y.tx iv ov) (t:=y.tx) _ ⟨iv,ov,rfl,h16,h26,h3.1,h3.2.1⟩ hsm hM6) ?_
  rintro _ w7 ⟨cs7,rfl,⟨iv7,ov7,rfl,o1,o2,o3⟩,x7⟩
  repeat (first|refine go ?_|refine zg (fun _ _=>?_)|refine zi (fun _ _=>?_))
  have g1:=o1.base
  have g2:=o2.base
  have e1:=o1.one
  have e2:=o2.one
  have s7:=x7.size
  refine st_storeN (o:=0) (b:=b6) (cur:=entCs y iv ov) (vs:=txCs y.tx iv7 ov7) rfl rfl rfl (all_one (by simp [txCs,e1,e2];exact ⟨rfl,rfl⟩)) (At.ext x7 a6) (Nat.le_of_ble_eq_true rfl) (fun w8 c8 a8=>?_)
  have a8:At w8 b6 (.cells (entCs y iv7 ov7).toArray T.api_Entry (0,0)):=a8
  have r8:Row w8 ⟨b6,0,none⟩ (entCs y iv7 ov7):=Row.of_at a8
  have x8:Unit→Ext w w8:=fun _=>(Ext.chg ((x4.trans x6).trans x7) c8).mono (by intro q hq;simp at hq;right;omega)
  have s8:=c8.size
  have a48:=At.chg c8 (At.ext x7 (At.ext x6 a4)) (by simp;omega)
  have h61:b6∉blkOf iv7:=fun h=>by have:=g1 _ h;omega
  have h62:b6∉blkOf ov7:=fun h=>by have:=g2 _ h;omega
  have p1:=o1.step (M':= [b4]++M) c8 (by intro q hq;simp at hq;subst hq;exact ⟨h61,.inl (by simp)⟩) (fun _ h=>.inl (List.mem_append_right _ h))
  have p2:=o2.step (M':= [b4]++M) c8 (by intro q hq;simp at hq;subst hq;exact ⟨h62,.inl (by simp)⟩) (fun _ h=>.inl (List.mem_append_right _ h))
  clear c8 x7 x6
  repeat (first|refine go ?_|refine zg (fun _ _=>?_)|refine zi (fun _ _=>?_))
  refine st_setN (w0:=w) (vs:=entCs y iv7 ov7) (x8 ()) (by omega) a48 rfl rfl rfl rfl (by simp [entCs,e1,e2];exact ⟨rfl,rfl,rfl,rfl,rfl⟩) (fun w9 x9 c9 a9 r9=>?_)
  repeat (first|refine go ?_|refine zg (fun _ _=>?_)|refine zi (fun _ _=>?_))
  have h41:b4∉blkOf iv7:=fun h=>by have:=g1 _ h;omega
  have h42:b4∉blkOf ov7:=fun h=>by have:=g2 _ h;omega
  have q1:=p1.step (M':=M) c9 (by intro q hq;simp at hq;subst hq;exact ⟨h41,.inl (by simp)⟩) (fun _ h=>.inl (List.mem_append_right _ h))
  have q2:=p2.step (M':=M) c9 (by intro q hq;simp at hq;subst hq;exact ⟨h42,.inl (by simp)⟩) (fun _ h=>.inl (List.mem_append_right _ h))
  exact x_ret (ret2 (rv_cell r9 rfl rfl) rv_tmp) ⟨_,rfl,⟨iv7,ov7,rfl,q1.lower (by omega),q2.lower (by omega),h3⟩,x9⟩
 ·rw [hinv.ent] at hn
  obtain ⟨e1,e2⟩:=has_none hn
  rw [e1,e2]
  generalize hy:(default:Ent)=y
  generalize hq:entCs y (.slice none 0 0) (.slice none 0 0)=cq
  have hsm:y.tx.Sm:=by subst hy;exact ⟨by decide,by decide,fun x hx=>by cases hx⟩
  obtain ⟨iv,hiv⟩:∃iv:Value,iv=.slice none 0 0:=⟨_,rfl⟩
  obtain ⟨ov,hov⟩:∃ov:Value,ov=.slice none 0 0:=⟨_,rfl⟩
  have h1:SlR inR ([b4]++M) w4 iv y.tx.ins:=by subst hy hiv;exact SlR.nil _ _
  have h2:SlR outR ([b4]++M) w4 ov y.tx.outs:=by subst hy hov;exact SlR.nil _ _
  have h3:is32 y.tx.ver∧is32 y.tx.lock∧is64 y.fee∧is64 y.size:=by subst hy;exact ⟨is32_0,is32_0,is64_0,is64_0⟩
  have hcq:cq=entCs y iv ov:=by rw [←hq,hiv,hov]
  rw [hcq]
  clear hy hiv hov hq hcq
  repeat (first|refine go ?_|refine zg (fun _ _=>?_)|refine zi (fun _ _=>?_))
  refine zE (fun _=>rfl) rfl rfl (by show (entCs y iv ov).all _=true;simp [entCs,h1.one,h2.one];exact ⟨rfl,rfl,rfl,rfl,rfl⟩) (fun b6 w6 x6 a6 (r6:Row w6 ⟨b6,0,none⟩ (entCs y iv ov)) hb6=>?_)
  have l6:=a6.lt
  have s4:=x4.size
  have s6:=x6.size
  have hmem:∀b∈ [b6]++([b4]++M),b∈ [b4]++M∨w4.heap.size≤b:=mem_app (fun b hb=>by simp at hb;omega)
  have h16:SlR inR ([b6]++([b4]++M)) w6 iv y.tx.ins:=h1.step x6 (by simp) hmem
  have h26:SlR outR ([b6]++([b4]++M)) w6 ov y.tx.outs:=h2.step x6 (by simp) hmem
  have hM6:∀b∈ [b6]++([b4]++M),b<w6.heap.size:=fun b hb=>by
   simp only [List.mem_append,List.mem_singleton] at hb
   rcases hb with h|h|h
   ·omega
   ·omega
   ·have:=hlt b h;omega
  repeat (first|refine go ?_|refine zg (fun _ _=>?_)|refine zi (fun _ _=>?_))
  refine zC rfl (txcopy_spec (M:= [b6]++([b4]++M)) (cs:=txCs y.tx iv ov) (t:=y.tx) _ ⟨iv,ov,rfl,h16,h26,h3.1,h3.2.1⟩ hsm hM6) ?_
  rintro _ w7 ⟨cs7,rfl,⟨iv7,ov7,rfl,o1,o2,o3⟩,x7⟩
  repeat (first|refine go ?_|refine zg (fun _ _=>?_)|refine zi (fun _ _=>?_))
  have g1:=o1.base
  have g2:=o2.base
  have e1:=o1.one
  have e2:=o2.one
  have s7:=x7.size
  refine st_storeN (o:=0) (b:=b6) (cur:=entCs y iv ov) (vs:=txCs y.tx iv7 ov7) rfl rfl rfl (all_one (by simp [txCs,e1,e2];exact ⟨rfl,rfl⟩)) (At.ext x7 a6) (Nat.le_of_ble_eq_true rfl) (fun w8 c8 a8=>?_)
  have a8:At w8 b6 (.cells (entCs y iv7 ov7).toArray T.api_Entry (0,0)):=a8
  have r8:Row w8 ⟨b6,0,none⟩ (entCs y iv7 ov7):=Row.of_at a8
  have x8:Unit→Ext w w8:=fun _=>(Ext.chg ((x4.trans x6).trans x7) c8).mono (by intro q hq;simp at hq;right;omega)
  have s8:=c8.size
  have a48:=At.chg c8 (At.ext x7 (At.ext x6 a4)) (by simp;omega)
  have h61:b6∉blkOf iv7:=fun h=>by have:=g1 _ h;omega
  have h62:b6∉blkOf ov7:=fun h=>by have:=g2 _ h;omega
  have p1:=o1.step (M':= [b4]++M) c8 (by intro q hq;simp at hq;subst hq;exact ⟨h61,.inl (by simp)⟩) (fun _ h=>.inl (List.mem_append_right _ h))
  have p2:=o2.step (M':= [b4]++M) c8 (by intro q hq;simp at hq;subst hq;exact ⟨h62,.inl (by simp)⟩) (fun _ h=>.inl (List.mem_append_right _ h))
  clear c8 x7 x6
  repeat (first|refine go ?_|refine zg (fun _ _=>?_)|refine zi (fun _ _=>?_))
  refine st_setN (w0:=w) (vs:=entCs y iv7 ov7) (x8 ()) (by omega) a48 rfl rfl rfl rfl (by simp [entCs,e1,e2];exact ⟨rfl,rfl,rfl,rfl,rfl⟩) (fun w9 x9 c9 a9 r9=>?_)
  repeat (first|refine go ?_|refine zg (fun _ _=>?_)|refine zi (fun _ _=>?_))
  have h41:b4∉blkOf iv7:=fun h=>by have:=g1 _ h;omega
  have h42:b4∉blkOf ov7:=fun h=>by have:=g2 _ h;omega
  have q1:=p1.step (M':=M) c9 (by intro q hq;simp at hq;subst hq;exact ⟨h41,.inl (by simp)⟩) (fun _ h=>.inl (List.mem_append_right _ h))
  have q2:=p2.step (M':=M) c9 (by intro q hq;simp at hq;subst hq;exact ⟨h42,.inl (by simp)⟩) (fun _ h=>.inl (List.mem_append_right _ h))
  exact x_ret (ret2 (rv_cell r9 rfl rfl) rv_tmp) ⟨_,rfl,⟨iv7,ov7,rfl,q1.lower (by omega),q2.lower (by omega),h3⟩,x9⟩
end Go.Proofs.YtfebcajheojodaaGreatDoor
end
section
namespace Go.Proofs.YtfebcajheojodaaGreatDoor
open Go Go.K
attribute [local irreducible] regK codeK retK KOp.wp K.Spec u32 leS vnS str zero32 sha2 encT idT sizeT checkT grantB idN hangs stepR findI spends
abbrev spE (l:List Ent) (p:Pt):Option Ent:=l.find? fun x=>spends x p
abbrev spId (l:List Ent) (p:Pt):ByteArray:=((spE l p).map (·.id)).getD ⟨#[]⟩
theorem spender_spec {g:Nat} {M:List Nat} {l:List Ent} (p:Pt) (w:World) (hG:GrR w g M l):K.Spec Tryz.prog F.graph_Graph_Spender [.pointer (some ⟨g,0,none⟩),.agg p.cs.toArray] w fun r w'=>
  r=.tuple #[.string (spId l p),.bool (spE l p).isSome]∧Ext w w':=by
 obtain ⟨b1,vo,b2,m,sp,hP⟩:=hG
 have rg:Row w ⟨g,0,none⟩ [.map (some b1),vo,.map (some b2)]:=Row.of_at hP.at_
 have hinv:=hP.inv
 refine s_graph_Graph_Spender rfl ?_
 unfold k_graph_Graph_Spender
 refine oy ?_
 repeat' (first|(first|refine go1 ?_|refine zg (fun _ _=>?_)|refine zi (fun _ _=>?_))|refine zD rfl rfl (fun bp wp xp ap (rp:Row wp ⟨bp,0,none⟩ p.cs) hp0=>?_)|(refine st_lookupOk (E:=ptK) (fv:=Value.string) (k:=p) rfl rfl (hP.pts.ext (by exact fx)) rfl rfl (fun y hy=>?_) (fun hn=>?_)))
 ·rw [hinv.spt] at hy
  obtain ⟨e,he,rfl⟩:=Option.map_eq_some_iff.1 hy
  have e1:spId l p=e.id:=by unfold spId spE;rw [he];rfl
  have e2:(spE l p).isSome=true:=by unfold spE;rw [he];rfl
  rw [e1,e2]
  exact x_ret rfl ⟨rfl,by exact fx⟩
 ·rw [hinv.spt,Option.map_eq_none_iff] at hn
  have e1:spId l p=⟨#[]⟩:=by unfold spId spE;rw [hn];rfl
  have e2:(spE l p).isSome=false:=by unfold spE;rw [hn];rfl
  rw [e1,e2]
  exact x_ret rfl ⟨rfl,by exact fx⟩
abbrev outHas (l:List Ent) (p:Pt):Bool:=hasE l p.s&&decide (p.i<((getE l p.s).tx.outs.length:Int))
theorem out_spec {g:Nat} {M:List Nat} {l:List Ent} (p:Pt) (hp:is32 p.i) (w:World) (hG:GrR w g M l) (hM:∀b∈M,b<w.heap.size):K.Spec Tryz.prog F.graph_Graph_Out [.pointer (some ⟨g,0,none⟩),.agg p.cs.toArray] w fun r w'=>
  ∃o:TOut,r=.tuple #[.agg (outCs o).toArray,.bool (outHas l p)]∧(outHas l p=true→(getE l p.s).tx.outs[p.i.toNat]? =some o)∧Ext w w':=by
 have hp9:0≤p.i∧p.i<4294967296:=hp
 refine s_graph_Graph_Out rfl ?_
 unfold k_graph_Graph_Out
 refine oy ?_
 repeat' (first|(refine st_fixV (d:=some 20) (.int .i64 p.i) rfl (congrArg (fun n=>some (Value.int .i64 n)) (wrap_i hp)) ?_)|(refine st_elemR (d:=some 33) (E:=outR) (M:= []) rfl (n:=p.i.toNat) (congrArg (Value.int .u32) (by unfold is32 at hp;omega)) (l:=(getE l p.s).tx.outs) ((o26.sub (M':= []) (by simp)).sl (by simp)) rfl (by omega) (fun ad cs r7 he=>?_);obtain ⟨rfl,hv7⟩:=he)|(first|refine go1 ?_|refine zg (fun _ _=>?_)|refine zi (fun _ _=>?_))|refine zD rfl rfl (fun bp wp xp ap (rp:Row wp ⟨bp,0,none⟩ p.cs) hp0=>?_)|refine zK rfl (fun h=>?_) (fun h=>?_)|refine zL rfl (fun h=>?_) (fun h=>?_)|refine zM rfl (fun h=>?_) (fun h=>?_)|(refine zH (d:=some 4) (fun b4 w4 x4 a4 hb4=>?_))|(refine zC rfl (get_spec (M:=M) p.s _ (hG.ext (by exact fx)) (fun b hb=>Nat.lt_of_lt_of_le (hM b hb) (Ext.size (by exact fx)))) ?_;rintro _ w5 ⟨ds,rfl,⟨iv,ov,rfl,o1,o2,o3⟩,x5⟩;have e1:=o1.one;have e2:=o2.one)|(refine zE (d':=6) (fun _=>rfl) rfl rfl (by show (entCs (getE l p.s) iv ov).all _=true;simp [entCs,e1,e2];exact ⟨rfl,rfl,rfl,rfl,rfl⟩) (fun b6 w6 x6 a6 (r6:Row w6 ⟨b6,0,none⟩ (entCs (getE l p.s) iv ov)) hb6=>?_);have o26:=o2.ext x6)|(refine zG (E:=outR) (M:= []) (l:=(getE l p.s).tx.outs) rfl ((o26.sub (M':= []) (by simp)).sl (by simp)) ?_)|(refine st_build (d:=some 27) (cs:=outCs ⟨0,⟨#[]⟩⟩) rfl ?_))
 ·have hh:hasE l p.s=false:=by simpa using h
  have e:outHas l p=false:=by unfold outHas;rw [hh];rfl
  rw [e]
  refine st_setN (w0:=wp) (vs:=outCs ⟨0,⟨#[]⟩⟩) (by exact fx) hb4 (by focus (repeat (first|assumption|(apply At.ext;assumption)))) rfl rfl rfl rfl rfl (fun w9 x9 c9 a9 r9=>?_)
  repeat (first|refine go ?_|refine zg (fun _ _=>?_)|refine zi (fun _ _=>?_))
  exact x_ret (ret2 (rv_cell r9 rfl rfl) rv_tmp) ⟨⟨0,⟨#[]⟩⟩,rfl,(fun hf=>by cases hf),xp.trans x9⟩
 ·have e:outHas l p=false:=by unfold outHas;rw [decide_eq_false (by omega),Bool.and_false]
  rw [e]
  refine st_setN (w0:=wp) (vs:=outCs ⟨0,⟨#[]⟩⟩) (by exact fx) hb4 (by focus (repeat (first|assumption|(apply At.ext;assumption)))) rfl rfl rfl rfl rfl (fun w9 x9 c9 a9 r9=>?_)
  repeat (first|refine go ?_|refine zg (fun _ _=>?_)|refine zi (fun _ _=>?_))
  exact x_ret (ret2 (rv_cell r9 rfl rfl) rv_tmp) ⟨⟨0,⟨#[]⟩⟩,rfl,(fun hf=>by cases hf),xp.trans x9⟩
 ·have hh:hasE l p.s=true:=by simpa using ‹(!hasE l p.s)=false›
  have e:outHas l p=true:=by unfold outHas;rw [hh,decide_eq_true (by omega)];rfl
  rw [e]
  have hil:p.i.toNat<(getE l p.s).tx.outs.length:=by omega
  refine st_setN (w0:=wp) (vs:=outCs (getE l p.s).tx.outs[p.i.toNat]) (by exact fx) hb4 (by focus (repeat (first|assumption|(apply At.ext;assumption)))) rfl rfl rfl rfl rfl (fun w9 x9 c9 a9 r9=>?_)
  repeat (first|refine go ?_|refine zg (fun _ _=>?_)|refine zi (fun _ _=>?_))
  exact x_ret (ret2 (rv_cell r9 rfl rfl) rv_tmp) ⟨_,rfl,fun _=>List.getElem?_eq_getElem hil,xp.trans x9⟩
theorem getE_id {w:World} {g:Nat} {M:List Nat} {l:List Ent} (hG:GrR w g M l) {x:Ent} (hx:x∈l):getE l x.id=x∧hasE l x.id=true:=by
 cases h:l.find? fun y=>decide (y.id=x.id) with
 |none=>exact absurd (List.find?_eq_none.1 h x hx) (by simp)
 |some y=>
  obtain ⟨e1,e2,e3,e4⟩:=has_some h
  refine ⟨?_,e1⟩
  rw [e2]
  have hn:=hG.nodup
  clear h e1 e2 hG
  induction l with
  |nil=>simp at hx
  |cons z l ih=>
   rw [List.map_cons,List.nodup_cons] at hn
   rcases List.mem_cons.1 hx with h1|h1
   ·rcases List.mem_cons.1 e3 with h2|h2
    ·rw [h1,h2]
    ·exact absurd (List.mem_map.2 ⟨y,h2,by rw [e4,h1]⟩) hn.1
   ·rcases List.mem_cons.1 e3 with h2|h2
    ·exact absurd (List.mem_map.2 ⟨x,h1,by rw [←e4,h2]⟩) hn.1
    ·exact ih h1 h2 hn.2
def entF (B:Nat):R Ent where
 k:=7
 pos:=by decide
 ag:=true
 rel:=fun M w cs x=>∃iv ov,cs=entCs x iv ov∧OwnR inR T.api_In B M w iv x.tx.ins∧OwnR outR T.api_Out B M w ov x.tx.outs∧(is32 x.tx.ver∧is32 x.tx.lock∧is64 x.fee∧is64 x.size)∧∀b∈M,b∉blkOf iv∧b∉blkOf ov
 len:=fun ⟨_,_,h,_⟩=>by rw [h];rfl
 one:=fun ⟨iv,ov,h,hi,ho,_⟩ v hv=>by
  have h1:=hi.one
  have h2:=ho.one
  subst h;simp [entCs] at hv;rcases hv with rfl|rfl|rfl|rfl|rfl|rfl|rfl<;>first|exact h1|exact h2|rfl
 step:=fun {M M' L w w' _ _} ⟨iv,ov,h,hi,ho,h2,hd⟩ c hL hM=>by
  have k1:∀b∈L,(b∉blkOf iv∧b∉blkOf ov)∧(b∈M∨w.heap.size≤b):=fun b hb=>⟨by
   rcases hL b hb with h|h
   ·exact hd b h
   ·exact ⟨fun q=>by have:=hi.lt b q;omega,fun q=>by have:=ho.lt b q;omega⟩,hL b hb⟩
  refine ⟨iv,ov,h,hi.step c (fun b hb=>⟨(k1 b hb).1.1,(k1 b hb).2⟩) hM,ho.step c (fun b hb=>⟨(k1 b hb).1.2,(k1 b hb).2⟩) hM,h2,fun b hb=>?_⟩
  rcases hM b hb with h|h
  ·exact hd b h
  ·exact ⟨fun q=>by have:=hi.lt b q;omega,fun q=>by have:=ho.lt b q;omega⟩
theorem entF.r {B:Nat} {M:List Nat} {w:World} {cs:List Value} {x:Ent} (h:(entF B).rel M w cs x):entR.rel M w cs x:=by
 obtain ⟨iv,ov,e,h1,h2,h3,hd⟩:=h
 exact ⟨iv,ov,e,h1.sl fun b hb=>(hd b hb).1,h2.sl fun b hb=>(hd b hb).2,h3⟩
set_option maxHeartbeats 1000000 in
theorem all_own {g:Nat} {M:List Nat} {l:List Ent} (w:World) (hG:GrR w g M l) (hlt:∀b∈M,b<w.heap.size) (hn:l.length≤100000):K.Spec Tryz.prog F.graph_Graph_All [.pointer (some ⟨g,0,none⟩)] w fun r w'=>OwnR (entF w.heap.size) T.api_Entry w.heap.size M w' r l∧Ext w w':=by
 have hG0:=hG
 obtain ⟨b1,vo,b2,m,sp,hP⟩:=hG
 have rg:Row w ⟨g,0,none⟩ [.map (some b1),vo,.map (some b2)]:=Row.of_at hP.at_
 have hord:=hP.ord
 have hml:(l.map (·.id)).length=l.length:=by simp
 refine s_graph_Graph_All rfl ?_
 unfold k_graph_Graph_All
 refine oy ?_
 repeat' (first|(first|refine go1 ?_|refine zg (fun _ _=>?_)|refine zi (fun _ _=>?_))|refine zL rfl (fun h=>?_) (fun h=>?_)|(refine st_len rfl (SlE.ext (w:=w) (by exact fx) hord) ?_;rw [hml])|(refine c_loopV (fun (p:Nat × Value) w'=>Ext w w'∧p.1≤l.length∧OwnR (entF w.heap.size) T.api_Entry w.heap.size M w' p.2 (l.take p.1)) (fun p=> [(0,.pointer (some ⟨g,0,none⟩)),(3,p.2),(13,vo),(14,.int .i64 (l.length:Nat)),(15,.int .i64 p.1)]) (fun p=>l.length - p.1) (0,.slice none 0 0) ⟨rfl,rfl,rfl,rfl,rfl,trivial⟩ ⟨Ext.refl _,by simp,OwnR.nil _ _ _ _⟩ ?_;rintro ⟨i,vr⟩ ρ w3 ⟨x3,hi,ho⟩;simp only at hi ho;dsimp only))
 ·have hil:i<l.length:=by omega
  refine st_elemE (d:=some 17) (E:=strE) rfl rfl (n:=i) (l:=l.map (fun x:Ent=>x.id)) (SlE.ext (w:=w) x3 hord) rfl (by omega) (fun ad r4=>?_)
  have r4:Row w3 ad [Value.string l[i].id]:=by simpa [strE] using r4
  have hN:∀b∈blkOf vr++M,b∈M∨w.heap.size≤b:=mem_app ho.base
  have hN2:∀b∈blkOf vr++M,b<w3.heap.size:=fun b hb=>by
   rcases List.mem_append.1 hb with h|h
   ·exact ho.lt b h
   ·exact Nat.lt_of_lt_of_le (hlt b h) x3.size
  repeat' (first|(first|refine go1 ?_|refine zg (fun _ _=>?_)|refine zi (fun _ _=>?_))|(refine zC rfl (get_spec (M:=blkOf vr++M) l[i].id _ (hG0.more x3 hN) hN2) ?_;rintro _ w5 ⟨ds,rfl,he0,x5⟩;have hge:=(getE_id hG0 (List.getElem_mem hil)).1;rw [hge] at he0;have hone:=entR.one (he0.rel hN2);obtain ⟨iv,ov,rfl,g1,g2,g3⟩:=he0)|(refine zE (d':=6) (fun _=>rfl) rfl rfl (by rw [List.all_eq_true];exact hone) (fun b6 w6 x6 a6 (r6:Row w6 ⟨b6,0,none⟩ (entCs l[i] iv ov)) hb6=>?_))|(refine zI (cs:=entCs l[i] iv ov) rfl (fun b w7 x7 a7 hb=>?_))|(refine st_append1 (E:=entF w.heap.size) (M:=M) (v:=vr) (cs:=entCs l[i] iv ov) (a:=l[i]) rfl rfl (ho.ext (by exact fx)) (Ext.size (w:=w) (by exact fx)) rfl rfl a7 ⟨iv,ov,rfl,(g1.ext (by exact fx)).lower x3.size,(g2.ext (by exact fx)).lower x3.size,g3,fun b hb=>⟨fun h=>absurd (g1.base b h) (by have:=hN2 b hb;omega),fun h=>absurd (g2.base b h) (by have:=hN2 b hb;omega)⟩⟩ (by have:(l.take i).length≤l.length:=(by rw [List.length_take];omega);omega) (fun v8 w8 o8 c8 hb8=>?_)))
  exact ⟨(i+1,v8),⟨rfl,rfl,rfl,rfl,rfl,trivial⟩,⟨(Ext.chg (w:=w) (by exact fx) c8).mono (fun b hb=>.inr (ho.base b hb)),by simp;omega,by show OwnR _ _ _ _ _ _ (l.take (i+1));rw [List.take_succ_eq_append_getElem hil];exact o8⟩,by simp;omega⟩
 ·rw [List.take_of_length_le (by omega)] at ho
  exact x_ret rfl ⟨ho,x3⟩
theorem all_spec {g:Nat} {M:List Nat} {l:List Ent} (w:World) (hG:GrR w g M l) (hlt:∀b∈M,b<w.heap.size) (hn:l.length≤100000):K.Spec Tryz.prog F.graph_Graph_All [.pointer (some ⟨g,0,none⟩)] w fun r w'=>OwnR entR T.api_Entry w.heap.size M w' r l∧Ext w w':=by
 refine spec_mono (all_own w hG hlt hn) fun r w' ⟨⟨css,h1,h2⟩,x⟩=>⟨⟨css,h1,h2.mono fun _ _ h=>entF.r h⟩,x⟩
end Go.Proofs.YtfebcajheojodaaGreatDoor
end
