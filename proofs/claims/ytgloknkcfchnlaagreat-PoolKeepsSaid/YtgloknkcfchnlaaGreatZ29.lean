/- The walk of GraphAgain. Plain: what comes in place of others -/
import Derived.Test.YtgloknkcfchnlaaGreatZ26
set_option linter.unusedVariables false
set_option linter.unusedSimpArgs false
namespace Go.Proofs.YtgloknkcfchnlaaGreat
section
open Go Go.K
attribute [local irreducible] aF aP bG KOp.wp K.Spec u32 leS vnS str aR dE bS idT aO aE aQ idN bB cH bY bT cE eO bF cI inS aK kI fP
theorem GrR.apart {w:World} {g:Nat} {M:List Nat} {l:List Ent} (h:GrR w g M l):l.Pairwise fun x y=>∀p,spends x p=true→spends y p=false:=by
 obtain ⟨b1,vo,b2,m,sp,hP⟩:=h;exact hP.inv.apart
end
end Go.Proofs.YtgloknkcfchnlaaGreat
namespace Go.K
section
open Go Go.Proofs.YtgloknkcfchnlaaGreat
section
variable {l:List Ent} {t:Tx}
theorem aBj {s:ByteArray}:eU l s=true↔∃x∈l,x.id=s:=by
 unfold eU
 rw [List.any_eq_true]
 exact ⟨fun ⟨x,h1,h2⟩=>⟨x,h1,of_decide_eq_true h2⟩,fun ⟨x,h1,h2⟩=>⟨x,h1,dTr h2⟩⟩
theorem bPr {m:List Bool} {s:ByteArray} (h:s∈aK l m):∃x∈l,x.id=s:=by
 obtain ⟨i,hi,_,rfl⟩:=sX.1 h
 exact ⟨l[i],gMe hi,rfl⟩
theorem aWx {x:Ent}:gJ t x=true↔∃b∈t.ins,spends x b.p=true:=by
 unfold gJ spends
 simp only [List.any_eq_true,decide_eq_true_eq]
 constructor
 ·rintro ⟨a,ha,b,hb,e⟩;exact ⟨b,hb,a,ha,e⟩
 ·rintro ⟨b,hb,a,ha,e⟩;exact ⟨a,ha,b,hb,e⟩
theorem bKa {x:Ent} (h:0<x.tx.ins.length):gJ x.tx x=true:=by
 rw [aWx]
 refine ⟨x.tx.ins[0],gMe h,?_⟩
 unfold spends
 exact List.any_eq_true.2 ⟨_,gMe h,dTr rfl⟩
theorem bIm (hn:(l.map (·.id)).Nodup) (hc:aE t=0) (hi:0<t.ins.length) (hg:aQ t=false) {f:Int} (hf:cD f=true):
  (eO (gZ l (evL l t)) t f).2=0∨((eO (gZ l (evL l t)) t f).2=7∧eU (gZ l (evL l t)) (idT t)=true∧(dV (gZ l (evL l t)) (idT t)).tx≠t):=by
 have none:∀x∈gZ l (evL l t),gJ t x=false:=fun x hx=>by
  rw [←Bool.not_eq_true]
  exact fun h=>yW l _ hn hx (bO0 hn ((jI _ _).subset hx) h)
 unfold eO
 rw [if_neg (by simpa using hc),if_neg (by simp [hg]),if_neg (by simp [hf])]
 by_cases h7:((gZ l (evL l t)).any fun x=>decide (x.id=idT t))=true
 ·rw [if_pos h7]
  refine .inr ⟨rfl,h7,fun e=>?_⟩
  have hm:=(bGn (l:=gZ l (evL l t)) h7).1
  have h1:=none _ hm
  have h2:gJ (dV (gZ l (evL l t)) (idT t)).tx (dV (gZ l (evL l t)) (idT t))=true:=bKa (by rw [e];exact hi)
  rw [e] at h2
  rw [h1] at h2
  cases h2
 ·rw [if_neg h7]
  have h8:(t.ins.any fun i=>(gZ l (evL l t)).any fun x=>spends x i.p)=false:=by
   rw [List.any_eq_false]
   intro b hb h
   obtain ⟨x,hx,h2⟩:=List.any_eq_true.1 h
   have h3:=none x hx
   rw [aWx.2 ⟨b,hb,h2⟩] at h3
   cases h3
  rw [if_neg (by simp [h8])]
  exact .inl rfl
end
end
section
open Go Go.Proofs.YtgloknkcfchnlaaGreat
def qT (P:List ByteArray) (s:ByteArray):Nat:=(P.filter fun x=>decide (x=s)).length
theorem bJd (P:List ByteArray) (x s:ByteArray):qT (P++ [x]) s=qT P s+if x=s then 1 else 0:=by
 unfold qT
 rw [List.filter_append,List.length_append]
 by_cases h:x=s
 ·rw [List.filter_cons_of_pos (by simpa using h),if_pos h];rfl
 ·rw [List.filter_cons_of_neg (by simpa using h),if_neg h];rfl
theorem bMl {P:List ByteArray} {s:ByteArray}:0<qT P s↔s∈P:=by
 unfold qT
 rw [List.length_pos_iff_exists_mem]
 constructor
 ·rintro ⟨x,hx⟩
  obtain ⟨h1,h2⟩:=List.mem_filter.1 hx
  rw [←of_decide_eq_true h2];exact h1
 ·exact fun h=>⟨s,List.mem_filter.2 ⟨h,dTr rfl⟩⟩
theorem bO9 (P:List ByteArray) (s:ByteArray):qT P s≤P.length:=List.length_filter_le _ _
def Cnt (met:List (ByteArray × Nat)) (P:List ByteArray):Prop:=∀s,aL met s=if qT P s=0 then none else some (qT P s)
theorem Cnt.nil:Cnt [] []:=fun s=>rfl
theorem Cnt.add {met:List (ByteArray × Nat)} {P:List ByteArray} (h:Cnt met P) (s:ByteArray):Cnt (fQ met s (qT P s+1)) (P++ [s]):=fun k=>by
 rw [dG,bJd]
 by_cases e:s=k
 ·subst e
  rw [if_pos rfl,if_pos rfl,if_neg (by omega)]
 ·rw [if_neg e,if_neg e,h k,Nat.add_zero]
theorem Cnt.found {met:List (ByteArray × Nat)} {P:List ByteArray} (h:Cnt met P) {s:ByteArray} {c:Nat} (hc:aL met s=some c):qT P s=c∧0<c:=by
 have:=h s
 rw [hc] at this
 split at this
 ·cases this
 ·injection this with e;omega
theorem Cnt.none_ {met:List (ByteArray × Nat)} {P:List ByteArray} (h:Cnt met P) {s:ByteArray} (hc:aL met s=none):qT P s=0:=by
 have:=h s
 rw [hc] at this
 split at this
 ·assumption
 ·cases this
def mQ (l:List Ent) (ids:List ByteArray):List ByteArray:=ids.flatMap fun s=>aK l (cI l s)
theorem bIx {l:List Ent} {ids:List ByteArray} {i:Nat} (h:i<ids.length):mQ l (ids.take (i+1))=mQ l (ids.take i)++aK l (cI l ids[i]):=by
 unfold mQ
 rw [List.take_succ_eq_append_getElem h,List.flatMap_append,List.flatMap_singleton]
theorem aZc {l:List Ent}:∀(ids:List ByteArray),(mQ l ids).length≤l.length*ids.length
 | []=>by simp [mQ]
 |s::ids=>by
  have ih:=aZc (l:=l) ids
  have h:=(lV l (cI l s)).length_le
  rw [List.length_map] at h
  unfold mQ at ih ⊢
  rw [List.flatMap_cons,List.length_append,List.length_cons,Nat.mul_add]
  omega
theorem bSk {l:List Ent} {t:Tx} (hn:(l.map (·.id)).Nodup) {i:Nat} (hi:i<l.length):((evL l t)[i]'(by rw [←aCh];exact hi))=true↔0<qT (mQ l (aK l (bV l t))) l[i].id:=by
 rw [bMl]
 have h1:=aOu (l:=l) (t:=t) hi (Nat.le_refl _)
 have e:(evI l t l.length)[i]? =some ((evL l t)[i]'(by rw [←aCh];exact hi)):=List.getElem?_eq_getElem _
 rw [e] at h1
 simp only [Option.some.injEq] at h1
 rw [h1]
 unfold mQ
 rw [List.mem_flatMap]
 constructor
 ·rintro ⟨j,hj,_,h2,h3⟩
  exact ⟨l[j].id,sZ.2 ⟨l[j],gMe hj,h2,rfl⟩,(rO hn hi).2 h3⟩
 ·rintro ⟨s,hs,h2⟩
  obtain ⟨x,hx,h3,rfl⟩:=sZ.1 hs
  obtain ⟨j,hj,rfl⟩:=List.getElem_of_mem hx
  exact ⟨j,hj,hj,h3,(rO hn hi).1 h2⟩
theorem aX2 {l:List Ent} {t:Tx} {i:Nat} (h:i<l.length):aK (l.take (i+1)) ((evL l t).take (i+1))=aK (l.take i) ((evL l t).take i)++if (evL l t)[i]'(by rw [←aCh];exact h)=true then [l[i].id] else []:=aQd aCh h
end
end Go.K
namespace Go.Proofs.YtgloknkcfchnlaaGreat
section
open Go Go.K
section
variable {P:Program} {d:Option Tmp} {r:KR} {K:Env→World→Prop} {ρ:Env} {w:World}
theorem uQ {x:Operand} {name:String} {args:List Operand} {t:TypeId} {u rv:Value} {fn:FuncId} {vs:List Value} {R:Value→World→Prop} (hx:ev ρ x=.iface t u) (hm:sJ P t u name=some (fn,rv)) (hb:cK P fn=true) (ha:rv::args.map (ev ρ)=vs)
  (h:Go.K.Spec P fn vs w R) (k:∀v w',R v w'→aF P r K (put ρ d v) w'):aF P (.cons ⟨d,.invoke x name args,none⟩ r) K ρ w:=
 gV ⟨t,u,fn,rv,hx,hm,hb,by subst ha;exact h.mono fun e w' ⟨v,hv,hR⟩=>⟨v,hv,k v w' hR⟩⟩
theorem bOw {f:TypeId→Value→String→Bool} {x:Operand} {name:String} {t:TypeId} {u:Value} (hx:ev ρ x=.func (.method name) #[.iface t u] #[]) (hm:f t u name=true) (k:aF P r K (put ρ d (.func (.method name) #[.iface t u] #[])) w):aF P (.cons ⟨d,.nilM f x,none⟩ r) K ρ w:=
 dH rfl (by simp [KOp.fix,hx,hm]) k
end
theorem bSu {t:TypeId} {u:Value} {s:String} (h:aZr Tryz.prog t u s=true):mo t u s=true:=by unfold mo;exact h
abbrev wR (c:Int):Value:=.iface T.api_Errno (.int .i64 c)
def dL (w:World):Nat→Value→Int→Int→Prop
 |0,v,c,a=>a= -1∧(c=0∧v=.nilIface∨c≠0∧v=wR c)
 |d+1,v,c,a=>dL w d v c a∨c≠0∧0≤a∧∃b u a',v=.iface T.P_api_Fault (.pointer (some ⟨b,0,none⟩))∧At w b (.cells [.int .i64 a,u].toArray T.api_Fault (0,0))∧dL w d u c a'
theorem dL.ext {w w':World} (x:Ext w w'):∀{d:Nat} {v:Value} {c a:Int},dL w d v c a→dL w' d v c a
 |0,_,_,_,h=>h
 |_+1,_,_,_,.inl h=>.inl (dL.ext x h)
 |_+1,_,_,_,.inr ⟨h1,h2,b,u,a',h3,h4,h5⟩=>.inr ⟨h1,h2,b,u,a',h3,h4.ext x,dL.ext x h5⟩
theorem dL.none_ (w:World) (d:Nat):dL w d .nilIface 0 (-1):=by
 induction d with
 |zero=>exact ⟨rfl,.inl ⟨rfl,rfl⟩⟩
 |succ d ih=>exact .inl ih
theorem dL.num (w:World) (d:Nat) {c:Int} (h:c≠0):dL w d (wR c) c (-1):=by
 induction d with
 |zero=>exact ⟨rfl,.inr ⟨h,rfl⟩⟩
 |succ d ih=>exact .inl ih
theorem dL.nil_iff {w:World}:∀{d:Nat} {v:Value} {c a:Int},dL w d v c a→(c=0→v=.nilIface∧a= -1)∧(c≠0→∃t u,v=.iface t u)
 |0,_,_,_,⟨h1,h2⟩=>by
  rcases h2 with ⟨h2,h3⟩|⟨h2,h3⟩
  ·exact ⟨fun _=>⟨h3,h1⟩,fun h=>absurd h2 h⟩
  ·exact ⟨fun h=>absurd h h2,fun _=>⟨_,_,h3⟩⟩
 |_+1,_,_,_,.inl h=>dL.nil_iff h
 |_+1,_,_,_,.inr ⟨h1,_,_,_,_,h3,_⟩=>⟨fun h=>absurd h h1,fun _=>⟨_,_,h3⟩⟩
def eH (w:World) (v:Value) (f:Pt→Option Cn):Prop:=(∃t u,v=.iface t u∧∀p:Pt,dM p.i→∀w1,Ext w w1→∃fn rv,aZr Tryz.prog t u "Get" =true∧sJ Tryz.prog t u "Get" =some (fn,rv)∧cK Tryz.prog fn=true∧
  K.Spec Tryz.prog fn [rv,.agg p.cs.toArray] w1 fun r w2=>∃c:Cn,r=.tuple #[.agg c.cs.toArray,.bool (f p).isSome]∧(f p).getD cn0=c∧Ext w1 w2)∧∀p c,f p=some c→c.s.size≤1000000
theorem eH.ext {w w':World} {v:Value} {f:Pt→Option Cn} (h:eH w v f) (x:Ext w w'):eH w' v f:=by
 obtain ⟨⟨t,u,e,h⟩,h2⟩:=h
 exact ⟨⟨t,u,e,fun p hp w1 x1=>h p hp w1 (x.trans x1)⟩,h2⟩
theorem eH.of_set {w:World} {b mb:Nat} {m:List En} (h:mD T.coins_Set w b mb m) (hs:∀e∈m,e.2.s.size≤1000000):eH w (.iface T.P_coins_Set (.pointer (some ⟨b,0,none⟩))) (aL m):=by
 refine ⟨⟨_,_,rfl,fun p hp w1 x1=>⟨F.coins_Set_Get,.pointer (some ⟨b,0,none⟩),by kernel_rfl,by kernel_rfl,by kernel_rfl,?_⟩⟩,fun p c hc=>hs _ (lF hc)⟩
 have:=aL7 p w1 (h.ext x1)
 unfold K.Spec at this ⊢
 exact this.mono fun e w2 ⟨v,e1,e2,x2⟩=>⟨v,e1,lR m p,e2,rfl,x2⟩
end
section
open Go Go.K
attribute [local irreducible] aF aP bG KOp.wp K.Spec u32 leS vnS str aR dE bS idT aO aE aQ
abbrev aAx (v g:Value) (h:Int):Value:=.iface T.pool_over (.agg #[v,g,.int .i64 h])
theorem aG5 (vt:TypeId) (vu:Value) (o:Option Addr) (h:Int) (w:World):K.Spec Tryz.prog F.pool_Over [.pointer o,.iface vt vu,.int .i64 h] w fun r w'=>r=aAx (.iface vt vu) (.pointer o) h∧Ext w w':=by
 refine aNp rfl ?_
 unfold aD1
 refine oy ?_
 repeat' (first|refine aT (d:=some 10) (cs:= [.iface vt vu,.pointer o,.int .i64 h]) rfl ?_|refine go1 ?_|refine zg λ_ _=>?_|refine zi λ_ _=>?_)
 exact aA rfl ⟨rfl,Ext.refl _⟩
theorem bEh (o:Option Addr) (h:Int) (w:World):K.Spec Tryz.prog F.pool_Over [.pointer o,.nilIface,.int .i64 h] w fun r w'=>r=aAx .nilIface (.pointer o) h∧Ext w w':=by
 refine aNp rfl ?_
 unfold aD1
 refine oy ?_
 repeat' (first|refine aT (d:=some 10) (cs:= [.nilIface,.pointer o,.int .i64 h]) rfl ?_|refine go1 ?_|refine zg λ_ _=>?_|refine zi λ_ _=>?_)
 exact aA rfl ⟨rfl,Ext.refl _⟩
theorem bBn {l:List Ent} (hE:∀x∈l,EntOk x) {h:Int} {p:Pt} {c:Cn} (hc:rC l h p=some c):c.s.size≤1000000:=by
 unfold rC at hc
 split at hc
 ·rename_i hh
  obtain ⟨o,ho,rfl⟩:=Option.map_eq_some_iff.1 hc
  have h1:eU l p.s=true:=by
   have:=hh
   simp only [cV,Bool.and_eq_true] at this
   exact this.1
  obtain ⟨y,hy,e⟩:=List.any_eq_true.1 h1
  cases hf:l.find? fun x=>decide (x.id=p.s) with
  |none=>exact absurd e (List.find?_eq_none.1 hf y hy)
  |some z=>
   obtain ⟨_,e2,e3,_⟩:=aKn hf
   have hck:=(hE z e3).check
   have hz:=cB (lE hck) hck
   rw [e2] at ho
   have:=hz.scr o (List.mem_of_getElem? ho)
   show o.s.size≤1000000
   omega
 ·cases hc
abbrev cZ:List Value:= [.int .i64 0,.string ⟨#[]⟩,.int .i64 0]
set_option maxHeartbeats 1000000 in
theorem aUj {w:World} {v:Value} {f:Pt→Option Cn} {g:Nat} {M:List Nat} {l:List Ent} (h:Int) (hV:eH w v f) (hG:GrR w g M l) (hM:∀b∈M,b<w.heap.size):eH w (aAx v (.pointer (some ⟨g,0,none⟩)) h) (gU f l h):=by
 have hE:=hG.ok
 obtain ⟨⟨t,u,rfl,hv⟩,hz⟩:=hV
 refine ⟨⟨_,_,rfl,fun p hp w1 x1=>⟨F.pool_over_Get,.agg #[.iface t u,.pointer (some ⟨g,0,none⟩),.int .i64 h],by kernel_rfl,by kernel_rfl,by kernel_rfl,?_⟩⟩,fun p c hc=>?_⟩
 ·replace hG:=hG.ext x1
  replace hM:∀b∈M,b<w1.heap.size:=fun b hb=>nLt (hM b hb) x1.size
  refine tK rfl ?_
  unfold nJ
  refine oy ?_
  repeat (first|refine zD (d:=some 2) (cs:= [.iface t u,.pointer (some ⟨g,0,none⟩),.int .i64 h]) rfl rfl (fun b2 w2 x2 a2 (r2:Row w2 ⟨b2,0,none⟩ [.iface t u,.pointer (some ⟨g,0,none⟩),.int .i64 h]) hb2=>?_)|refine zD (d:=some 3) (cs:=p.cs) rfl rfl (fun b3 w3 x3 a3 (r3:Row w3 ⟨b3,0,none⟩ p.cs) hb3=>?_)|(refine zH (d:=some 4) (fun b4 w4 x4 a4 hb4=>?_);have x14:Unit→Ext w1 w4:=(fun _=>by exact fx);have h14:w1.heap.size≤b4:=nTr (Ext.size (show Ext w1 w3 by exact fx)) hb4)|refine go1 ?_|refine zg λ_ _=>?_|refine zi λ_ _=>?_)
  obtain ⟨fn,rv,_,hm,hb,hS⟩:=hv p hp w4 (x1.trans (x14 ()))
  refine uQ (d:=some 17) rfl hm hb rfl hS ?_
  rintro _ w6 ⟨c,rfl,hc,x6⟩
  obtain ⟨bb,hbb⟩:∃bb,(f p).isSome=bb:=⟨_,rfl⟩
  rw [hbb]
  cases bb with
  |true=>
   obtain ⟨d,hf⟩:=Option.isSome_iff_exists.1 hbb
   have e:gU f l h p=some d:=by unfold gU;rw [hf];rfl
   have ec:d=c:=by rw [hf] at hc;exact hc
   subst ec
   rw [e]
   repeat (first|refine go1 ?_|refine zg λ_ _=>?_|refine zi λ_ _=>?_)
   refine zE (d':=6) (fun _=>rfl) rfl rfl rfl (fun b7 w7 x7 a7 (r7:Row w7 ⟨b7,0,none⟩ d.cs) hb7=>?_)
   repeat (first|refine go1 ?_|refine zg λ_ _=>?_|refine zi λ_ _=>?_)
   have a7':At w7 b4 _:=At.ext x7 (At.ext x6 a4)
   have x17:Ext w1 w7:=(x14 ()).trans (x6.trans x7)
   refine aU (w0:=w1) (vs:=d.cs) x17 h14 a7' rfl rfl rfl rfl rfl (fun w9 x9 c9 a9 r9=>?_)
   repeat (first|refine go1 ?_|refine zg λ_ _=>?_|refine zi λ_ _=>?_)
   exact aA (iR (bD r9 rfl rfl) bJ) ⟨_,rfl,rfl,x9⟩
  |false=>
   have hf:f p=none:=by simpa using hbb
   cases ho:cV l p with
   |false=>
    have e:gU f l h p=none:=by unfold gU rC;rw [ho,hf];rfl
    rw [e]
    repeat' (first|(refine zC (d:=some 26) rfl (aA9 (M:=M) (l:=l) p hp _ (hG.ext (by exact fx)) (fun b hb=>nLt (hM b hb) (Ext.size (by exact fx)))) ?_;rintro _ w5 ⟨o,rfl,ho5,x5⟩;rw [ho])|refine zE (d':=6) (fun _=>rfl) rfl rfl rfl (fun b7 w7 x7 a7 (r7:Row w7 ⟨b7,0,none⟩ c.cs) hb7=>?_)|refine zE (d':=8) (fun _=>rfl) rfl rfl rfl (fun b8 w8 x8 a8 (r8:Row w8 ⟨b8,0,none⟩ (iI o)) hb8=>?_)|refine aT (d:=some 31) (cs:=cZ) rfl ?_|refine go1 ?_|refine zg λ_ _=>?_|refine zi λ_ _=>?_)
    refine aU (w0:=w1) (vs:=cZ) ((x14 ()).trans (x6.trans (x7.trans (x5.trans x8)))) h14 (At.ext x8 (At.ext x5 (At.ext x7 (At.ext x6 a4)))) rfl rfl rfl rfl rfl (fun w9 x9 c9 a9 r9=>?_)
    repeat (first|refine go1 ?_|refine zg λ_ _=>?_|refine zi λ_ _=>?_)
    exact aA (iR (bD r9 rfl rfl) bJ) ⟨cn0,rfl,rfl,x9⟩
   |true=>
    repeat' (first|(refine zC (d:=some 26) rfl (aA9 (M:=M) (l:=l) p hp _ (hG.ext (by exact fx)) (fun b hb=>nLt (hM b hb) (Ext.size (by exact fx)))) ?_;rintro _ w5 ⟨o,rfl,ho5,x5⟩;rw [ho];have ho6:=ho5 ho)|refine zE (d':=6) (fun _=>rfl) rfl rfl rfl (fun b7 w7 x7 a7 (r7:Row w7 ⟨b7,0,none⟩ c.cs) hb7=>?_)|refine zE (d':=8) (fun _=>rfl) rfl rfl rfl (fun b8 w8 x8 a8 (r8:Row w8 ⟨b8,0,none⟩ (iI o)) hb8=>?_)|refine aT (d:=some 35) (cs:=Cn.cs ⟨o.v,o.s,h⟩) rfl ?_|refine go1 ?_|refine zg λ_ _=>?_|refine zi λ_ _=>?_)
    refine aU (w0:=w1) (vs:=Cn.cs ⟨o.v,o.s,h⟩) ((x14 ()).trans (x6.trans (x7.trans (x5.trans x8)))) h14 (At.ext x8 (At.ext x5 (At.ext x7 (At.ext x6 a4)))) rfl rfl rfl rfl rfl (fun w9 x9 c9 a9 r9=>?_)
    repeat (first|refine go1 ?_|refine zg λ_ _=>?_|refine zi λ_ _=>?_)
    have e:gU f l h p=some ⟨o.v,o.s,h⟩:=by
     unfold gU rC
     rw [hf,if_pos ho]
     show Option.map _ _=_
     rw [show (dV l p.s).tx.outs[p.i.toNat]? =some o from ho6];rfl
    rw [e]
    exact aA (iR (bD r9 rfl rfl) bJ) ⟨_,rfl,rfl,x9⟩
 ·unfold gU at hc
  cases hf:f p with
  |some d2=>rw [hf] at hc;cases hc;exact hz p _ hf
  |none=>rw [hf] at hc;exact bBn hE hc
end
end Go.Proofs.YtgloknkcfchnlaaGreat
namespace Go.K
section
open Go Go.Proofs.YtgloknkcfchnlaaGreat
def aPb (A:List En) (ps:List Pt):List En:=ps.foldl jL A
theorem aO8:∀(ps:List Pt) (A:List En) {e:En},e∈aPb A ps→e∈A
 | [],A,e,h=>h
 |q::ps,A,e,h=>(List.mem_filter.1 (aO8 ps (jL A q) h)).1
theorem aPl:∀(ps:List Pt) (A:List En),(A.map (·.1)).Nodup→ps.Nodup→(∀p∈ps,(aL A p).isSome=true)→tot (aPb A ps)=tot A - (ps.map fun p=>((aL A p).getD cn0).v).sum
 | [],A,_,_,_=>by simp [aPb]
 |q::ps,A,hA,hp,hs=>by
  rw [List.nodup_cons] at hp
  obtain ⟨c,hc⟩:=Option.isSome_iff_exists.1 (hs q (by simp))
  have hk:((jL A q).map (·.1)).Nodup:=hA.sublist (List.Sublist.map _ List.filter_sublist)
  have hq:∀p∈ps,aL (jL A q) p=aL A p:=fun p h=>by
   rw [aQi,if_neg]
   rintro rfl;exact hp.1 h
  have ih:=aPl ps (jL A q) hk hp.2 (fun p h=>by rw [hq p h];exact hs p (by simp [h]))
  show tot (aPb (jL A q) ps)=_
  rw [ih,aOv hA hc,List.map_cons,List.sum_cons,hc,List.map_congr_left (g:=fun p=>((aL A p).getD cn0).v) fun p h=>by rw [hq p h]]
  simp only [Option.getD_some];omega
end
end Go.K
