/- Contracts: above and below, by the program. Plain: a transaction that was made of one number is good. Contracts: what the document fixes of graphs. Contracts: a graph of any entries. The walk of GraphPlays: the entries that are kept. Plain: what rules of replacing say. Plain: locks, and transactions against coins. Contracts: sum. Plain: entries that are added anew, and dropped from the last one on -/
import Derived.Test.YtfebcajheojodaaGreatDoorDc24
set_option linter.unusedVariables false
set_option linter.unusedSimpArgs false
section
namespace Go.Proofs.YtfebcajheojodaaGreatDoor
open Go Go.K
attribute [local irreducible] regK codeK retK KOp.wp K.Spec u32 leS vnS str zero32 sha2 encT idT sizeT checkT grantB idN stepR workL reachE
theorem parents_in {l:List Ent} {ins:List TIn}:∀s∈parentsL l ins,∃j,j<l.length∧(entD l j).id=s:=by
 intro s hs
 unfold parentsL at hs
 obtain ⟨x,hx,rfl⟩:=List.mem_map.1 hs
 obtain ⟨h1,h2⟩:=List.mem_filter.1 hx
 unfold outHas hasE at h2
 rw [Bool.and_eq_true,List.any_eq_true] at h2
 obtain ⟨⟨y,hy,hd⟩,_⟩:=h2
 obtain ⟨j,hj,rfl⟩:=List.getElem_of_mem hy
 exact ⟨j,hj,by rw [entD_get hj];exact of_decide_eq_true hd⟩
theorem childL_in {l:List Ent} {id:ByteArray} {n:Nat}:∀s∈childL l id n,∃j,j<l.length∧(entD l j).id=s:=by
 intro s hs
 obtain ⟨j,_,e,he,rfl⟩:=mem_childL.1 hs
 obtain ⟨q,hq,rfl⟩:=List.getElem_of_mem (List.mem_of_find?_eq_some he)
 exact ⟨q,hq,by rw [entD_get hq]⟩
theorem pabove_spec {g:Nat} {M N:List Nat} {l:List Ent} {cs:List Value} {t:Tx} (w:World) (hG:GrR w g M l) (hM:∀b∈M,b<w.heap.size) (ht:txR.rel N w cs t) (hs:t.ins.length≤1000) (hn:l.length≤1000):K.Spec Tryz.prog F.graph_Graph_Above [.pointer (some ⟨g,0,none⟩),.agg cs.toArray] w fun r w'=>
  Own strE T.string w.heap.size w' r (idsOf l (aboveL l t))∧Ext w w':=by
 have hsm:∀x∈l,x.tx.Sm:=fun x hx=>chk_sm (hG.ok x hx).check
 have hnd:=hG.nodup
 have ht0:=ht
 obtain ⟨iv,ov,rfl, -⟩:=ht
 refine s_graph_Graph_Above rfl ?_
 unfold k_graph_Graph_Above
 refine oy ?_
 repeat' (first|(first|refine go1 ?_|refine zg (fun _ _=>?_)|refine zi (fun _ _=>?_))|(refine zD rfl rfl (fun bg wg xg ag (rg:Row wg ⟨bg,0,none⟩ [.pointer (some ⟨g,0,none⟩)]) hg0=>?_))|(refine zD (d:=some 3) rfl rfl (fun bp wp xp ap (rp:Row wp ⟨bp,0,none⟩ (txCs t iv ov)) hp0=>?_))|(refine zC rfl (parents_spec (M:=M) (N:=N) (cs:=txCs t iv ov) (t:=t) _ (hG.ext (by exact fx)) (fun b hb=>Nat.lt_of_lt_of_le (hM b hb) (Ext.size (by exact fx))) (by exact fx) (by omega)) ?_;rintro v5 w5 ⟨o5,x5⟩;obtain ⟨b5,c5,rfl⟩:=o5.sl.form)|refine st_both ?_ ?_)
 all_goals
  have xg5:Ext wg w5:=by exact fx
  have xw:Ext w w5:=xg.trans xg5
  have hle:(parentsL l t.ins).length≤1000:=Nat.le_trans (parentsL_length _ _) hs
  refine zC rfl (reach_spec (g:=g) (M:=M) (l:=l) (frm:=parentsL l t.ins) (nxt:=fun x=>parentsL l x.tx.ins) _ (hG.ext xw) (fun b hb=>Nat.lt_of_lt_of_le (hM b hb) xw.size) o5.sl ⟨F.graph_Graph_Above_1,#[],#[.pointer (some ⟨bg,0,none⟩)],rfl,above1_hb,fun x hx w' cs xx hr=>above1_spec (M:=M) (N:=M) (l:=l) (cs:=cs) (x:=x) w' (hG.ext (xw.trans xx)) (fun b hb=>Nat.lt_of_lt_of_le (hM b hb) (xw.trans xx).size) (At.ext (xg5.trans xx) ag) hr (by have:=(hsm x hx).ins;omega)⟩ hn hle parents_in (fun i hi=>parents_in) (fun x hx=>Nat.le_trans (parentsL_length _ _) (hsm x hx).ins)) ?_
  rintro v6 w6 ⟨o6,x6⟩
  repeat (first|refine go ?_|refine zg (fun _ _=>?_)|refine zi (fun _ _=>?_))
  rw [above_eq hnd] at o6
  exact x_ret rfl ⟨o6.lower xw.size,xw.trans x6⟩
theorem pbelow_spec {g:Nat} {M:List Nat} {l:List Ent} (id:ByteArray) (w:World) (hG:GrR w g M l) (hM:∀b∈M,b<w.heap.size) (hn:l.length≤1000):K.Spec Tryz.prog F.graph_Graph_Below [.pointer (some ⟨g,0,none⟩),.string id] w fun r w'=>
  Own strE T.string w.heap.size w' r (idsOf l (belowL l id))∧Ext w w':=by
 have hsm:∀x∈l,x.tx.Sm:=fun x hx=>chk_sm (hG.ok x hx).check
 have hnd:=hG.nodup
 refine s_graph_Graph_Below rfl ?_
 unfold k_graph_Graph_Below
 refine oy ?_
 repeat' (first|(first|refine go1 ?_|refine zg (fun _ _=>?_)|refine zi (fun _ _=>?_))|(refine zC rfl (get_spec (M:=M) id _ (hG.ext (by exact fx)) (fun b hb=>Nat.lt_of_lt_of_le (hM b hb) (Ext.size (by exact fx)))) ?_;rintro v5 w5 ⟨ds,rfl,e5,x5⟩;obtain ⟨iv,ov,rfl,o1,o2,o3⟩:=e5;have i1:=o1.one;have i2:=o2.one)|(refine zE (d':=5) (fun _=>rfl) rfl rfl (by simp [entCs,i1,i2];exact ⟨rfl,rfl,rfl,rfl,rfl⟩) (fun b6 w6 x6 a6 (r6:Row w6 ⟨b6,0,none⟩ (entCs (getE l id) iv ov)) hb6=>?_))|(refine zM rfl (fun h=>?_) (fun h=>?_))|(refine zI (d:=some 17) (cs:= [.string id]) rfl (fun b w10 x10 a10 hb=>?_)))
 ·have hno:hasE l id=false:=by simpa using h
  have hf:findI l id<0:=by
   rcases Int.lt_or_le (findI l id) 0 with h1|h1
   ·exact h1
   ·have h2:=idxOf_any (p:=fun x:Ent=>decide (x.id=id)) (l:=l)
    have h3:hasE l id=true:=by unfold hasE;rw [←h2];exact decide_eq_true h1
    rw [h3] at hno;cases hno
  have e0:idsOf l (belowL l id)= []:=by
   refine idsOf_none fun b hb=>?_
   unfold belowL reachL at hb
   obtain ⟨i,hi,rfl⟩:=List.mem_map.1 hb
   exact stepR_none (fun j _=>decide_eq_false (by omega)) _ _ (by simpa using hi)
  rw [e0]
  exact x_ret rfl ⟨Own.nil _ _ _,x5.trans x6⟩
 ·have hyes:hasE l id=true:=by simpa using h
  have xw:Ext w w10:=(x5.trans x6).trans x10
  have hnx:Nexts (.func (.func F.graph_Graph_children) #[.pointer (some ⟨g,0,none⟩)] #[]) l M w10 (fun x=>childL l x.id x.tx.outs.length):=⟨F.graph_Graph_children,#[.pointer (some ⟨g,0,none⟩)],#[],rfl,children_hb,fun x hx w' cs xx hr=>children_spec (M:=M) (N:=M) (l:=l) (cs:=cs) (x:=x) w' (hG.ext (xw.trans xx)) hr (by have:=(hsm x hx).outs;omega)⟩
  refine zC rfl (reach_spec (g:=g) (M:=M) (l:=l) (frm:= [id]) (nxt:=fun x=>childL l x.id x.tx.outs.length) _ (hG.ext xw) (fun b hb=>Nat.lt_of_lt_of_le (hM b hb) xw.size) (SlE.new (E:=strE) (l:= [id]) a10 rfl (Nat.le_refl _)) hnx hn (by simp) (fun s hs=>?_) (fun i hi=>childL_in) (fun x hx=>Nat.le_trans (childL_length _ _ _) (hsm x hx).outs)) ?_
  ·simp only [List.mem_singleton] at hs
   subst hs
   unfold hasE at hyes
   rw [List.any_eq_true] at hyes
   obtain ⟨y,hy,hd⟩:=hyes
   obtain ⟨j,hj,rfl⟩:=List.getElem_of_mem hy
   exact ⟨j,hj,by rw [entD_get hj];exact of_decide_eq_true hd⟩
  rintro v6 w6 ⟨o6,x6⟩
  repeat (first|refine go ?_|refine zg (fun _ _=>?_)|refine zi (fun _ _=>?_))
  have hinv:l.Pairwise fun x y=>∀p,spends x p=true→spends y p=false:=by
   obtain ⟨b1,vo,b2,m,sp,hP⟩:=hG;exact hP.inv.apart
  rw [below_eq hnd hinv hG.pos] at o6
  exact x_ret rfl ⟨o6.lower xw.size,xw.trans x6⟩
end Go.Proofs.YtfebcajheojodaaGreatDoor
end
section
namespace Go.K
open Go
end Go.K
end
section
namespace Go.Proofs.YtfebcajheojodaaGreatDoor
open Go Go.K
attribute [local irreducible] regK codeK retK KOp.wp K.Spec u32 leS vnS str zero32 sha2 encT idT sizeT checkT grantB idN stepR workL reachE findI
theorem equal_true {v u:Value} {l m:List ByteArray} (w:World) (hl:SlE strE w v l) (hm:SlE strE w u m) (he:l=m) (hn:l.length≤100000000):K.Spec Tryz.prog F.slices_Equal_L_string_string [v,u] w fun r w'=>r=.bool true∧Ext w w':=
 spec_mono (equal_spec w hl hm hn) fun r w' ⟨h1,h2⟩=>⟨by rw [h1,decide_eq_true he],h2⟩
end Go.Proofs.YtfebcajheojodaaGreatDoor
end
section
namespace Go.Proofs.YtfebcajheojodaaGreatDoor
open Go Go.K
attribute [local irreducible] regK codeK retK KOp.wp K.Spec u32 leS vnS str zero32 sha2 encT idT sizeT checkT grantB idN stepR workL reachE findI dropG addG
section
variable {P:Program} {d:Option Tmp} {r:KR} {K:Env→World→Prop} {ρ:Env} {w:World}
theorem st_takeR {α:Type} {E:R α} {M:List Nat} {size:Nat} {x h:Operand} {v:Value} {l:List α} {kd:IntKind} {n:Nat} {m:Int} {w1:World} (hx:ev ρ x=v) (hh:ev ρ h=.int kd m) (hm:m=(n:Nat)) (hs:SlR E M w1 v l) (hn:n≤l.length) (hk:size=E.k)
  (k:∀v',SlR E M w1 v' (l.take n)→regK P r K (put ρ d v') w):regK P (.cons ⟨d,.sliceSl size x none (some h),none⟩ r) K ρ w:=by
 subst hm
 obtain ⟨css,h1,h2,h3⟩:=hs
 have hl:=h2.length
 refine st_takeE (E:=vecE E.k E.pos) hx hh h1 (by rw [hl];exact hn) hk fun v' h4 h5=>k v' ⟨css.take n,h4,?_,fun hp b hb=>h3 (by rw [List.length_take] at hp;omega) b (h5 b hb)⟩
 have:=h2.take n
 exact All2.take n h2
end
end Go.Proofs.YtfebcajheojodaaGreatDoor
end
section
namespace Go.Proofs.YtfebcajheojodaaGreatDoor
open Go Go.K
attribute [local irreducible] regK codeK retK KOp.wp K.Spec u32 leS vnS str zero32 sha2 encT idT sizeT checkT grantB idN stepR workL reachE findI dropG addG spendI spends
end Go.Proofs.YtfebcajheojodaaGreatDoor
end
section
namespace Go.K
open Go Go.Proofs.YtfebcajheojodaaGreatDoor
section
variable {l:List Ent} {t:Tx}
abbrev Priced (l:List Ent):Prop:=∀x∈l,pricedB x.fee x.size=true
theorem enough_iff (hn:(l.map (·.id)).Nodup) (hp:Priced l) (hh:l.any (hitE t)=true) {f:Int} (hf:pricedB f (sizeT t:Nat)=true):enoughL l t f=true↔needL l t≤f:=by
 unfold enoughL needL
 rw [need_le,hh,Bool.and_eq_true,List.all_eq_true]
 simp only [Bool.not_true,Bool.false_or,decide_eq_true_eq,Bool.or_eq_true,Bool.not_eq_true']
 constructor
 ·rintro ⟨h1,h2⟩
  refine ⟨h2,fun s hs=>?_⟩
  obtain ⟨x,hx,h3,rfl⟩:=mem_conf.1 hs
  rw [(get_mem hn hx).2]
  rcases h1 x hx with h|h
  ·rw [h3] at h;cases h
  ·exact (more_iff hf (hp x hx)).1 h
 ·rintro ⟨h1,h2⟩
  refine ⟨fun x hx=>?_,h1⟩
  by_cases h3:hitE t x=true
  ·have:=h2 x.id (mem_conf.2 ⟨x,hx,h3,rfl⟩)
   rw [(get_mem hn hx).2] at this
   exact .inr ((more_iff hf (hp x hx)).2 this)
  ·exact .inl (by simpa using h3)
theorem feeOf_le {c:Nat} {l:List Ent} (hl:∀x∈l,0≤x.fee∧x.fee≤c) (m:List Bool):0≤feeOf l m∧feeOf l m≤c*l.length:=by
 induction l generalizing m with
 |nil=>simp [feeOf]
 |cons x l ih=>cases m with
  |nil=>simp only [feeOf];exact ⟨Int.le_refl _,Int.mul_nonneg (by omega) (by omega)⟩
  |cons b m=>
   have h1:=ih (fun y hy=>hl y (List.mem_cons_of_mem _ hy)) m
   have h2:=hl x (by simp)
   simp only [feeOf,List.length_cons,Int.natCast_add,Int.mul_add]
   split<;>omega
theorem gone_bound {c:Nat} (hf:∀x∈l,0≤x.fee∧x.fee≤c):0≤goneF l t∧goneF l t≤c*l.length:=feeOf_le hf _
theorem needL_pos (hg:0≤goneF l t) (hs:1≤sizeT t):1≤needL l t:=by
 have h:=need_base (l:=l) (S:=(sizeT t:Nat)) (n:=goneF l t+(sizeT t:Nat)) (ids:=idsOf l (confL l t))
 unfold needL
 omega
theorem rules_need (hn:(l.map (·.id)).Nodup) (hp:Priced l) (hh:l.any (hitE t)=true) {f need:Int} (hf:pricedB f (sizeT t:Nat)=true) (hneed:need=if goodB (needL l t)=true then needL l t else 2100000000000001) (h0:0≤needL l t):
  (if f<need then (11:Int) else 0)=if enoughL l t f=true then 0 else 11:=by
 have h1:=enough_iff hn hp hh hf
 have h2:=(pricedB_iff.1 hf).1
 by_cases h3:needL l t≤f
 ·rw [if_pos (h1.2 h3),if_neg]
  rw [hneed,if_pos ((goodB_iff _).2 (by omega))];omega
 ·rw [if_neg (fun h=>h3 (h1.1 h)),if_pos]
  rw [hneed]
  split<;>omega
theorem may_ids:(idsOf l (confL l t)).any (fun s=>!mayE l (getE l s))=l.any fun x=>hitE t x&&!mayE l (getE l x.id):=by
 rw [Bool.eq_iff_iff,List.any_eq_true,List.any_eq_true]
 constructor
 ·rintro ⟨s,hs,h⟩
  obtain ⟨x,hx,h3,rfl⟩:=mem_conf.1 hs
  exact ⟨x,hx,by rw [h3,h];rfl⟩
 ·rintro ⟨x,hx,h⟩
  rw [Bool.and_eq_true] at h
  exact ⟨x.id,mem_conf.2 ⟨x,hx,h.1,rfl⟩,h.2⟩
theorem may_conf (hn:(l.map (·.id)).Nodup):(idsOf l (confL l t)).any (fun s=>!mayE l (getE l s))=l.any fun x=>hitE t x&&!mayE l x:=by
 rw [may_ids,Bool.eq_iff_iff,List.any_eq_true,List.any_eq_true]
 constructor<;>rintro ⟨x,hx,h⟩<;>exact ⟨x,hx,by rw [(get_mem hn hx).2] at*;exact h⟩
end
end Go.K
end
section
namespace Go.K
open Go Go.Proofs.YtfebcajheojodaaGreatDoor
def byteAt (s:ByteArray) (i:Nat):Nat:=(s.data.toList.getD i 0).toNat
theorem byteAt_lt (s:ByteArray) (i:Nat):byteAt s i<256:=(s.data.toList.getD i 0).toNat_lt
def numAt (s:ByteArray) (a:Nat):Nat→Nat
 |0=>0
 |k+1=>byteAt s a+256*numAt s (a+1) k
theorem numAt_lt (s:ByteArray):∀(k a:Nat),numAt s a k<256^k
 |0,a=>by simp [numAt]
 |k+1,a=>by
  have h1:=byteAt_lt s a
  have h2:=numAt_lt s k (a+1)
  simp only [numAt,Nat.pow_succ];omega
theorem numAt_snoc (s:ByteArray):∀(k a:Nat),numAt s a (k+1)=numAt s a k+byteAt s (a+k)*256^k
 |0,a=>by simp [numAt]
 |k+1,a=>by
  rw [numAt,numAt_snoc s k (a+1),numAt,show a+1+k=a+(k+1) by omega,Nat.pow_succ,Nat.mul_add,Nat.add_assoc,Nat.mul_left_comm,Nat.mul_comm 256 (256^k)]
theorem numAt_two (s:ByteArray) (a:Nat):numAt s a 2=byteAt s a+256*byteAt s (a+1):=by simp [numAt]
structure Br where
 tag:Nat
 delay:Nat
 height:Nat
deriving DecidableEq
def brAt (s:ByteArray) (i:Nat):Br:=⟨numAt s (1+8*i) 2,numAt s (3+8*i) 2,numAt s (5+8*i) 4⟩
structure BrOk (b:Br):Prop where
 tag:b.tag<65536
 delay:b.delay<65536
 height:b.height<4294967296
theorem brAt_ok (s:ByteArray) (i:Nat):BrOk (brAt s i):=⟨numAt_lt s 2 _,numAt_lt s 2 _,numAt_lt s 4 _⟩
def brE:Enc Br:=⟨fun b=> [.int .u16 (b.tag:Nat),.int .u16 (b.delay:Nat),.int .u32 (b.height:Nat)],3,fun _=>rfl,by decide,by
 intro x v hv
 simp at hv
 rcases hv with rfl|rfl|rfl<;>rfl⟩
def lockN (s:ByteArray):Nat:=(s.size - 1) / 8
def lockForm (s:ByteArray):Bool:=(decide (s.size=9)||decide (s.size=17)||decide (s.size=25))&&decide (byteAt s 0=lockN s)
def brsL (s:ByteArray):List Br:=(List.range (lockN s)).map (brAt s)
def lowB (b:Br):Bool:=decide (b.height≤1000000)
def lockL (s:ByteArray):List Br:=if lockForm s&&(brsL s).all lowB then brsL s else []
def signL (l:List ByteArray):Option (Nat × Nat):=if l.length=1∧(l.headD default).size=3∧byteAt (l.headD default) 0<3 then some (byteAt (l.headD default) 0,numAt (l.headD default) 1 2) else none
def chosenB (s:ByteArray) (wit:List ByteArray):Option Br:=(signL wit).bind fun p=>((lockL s)[p.1]?).bind fun b=>if b.tag=0∨b.tag=p.2 then some b else none
def waitsT (t:Tx) (x:TIn):Int:=if x.q<2147483648∧t.ver≥2 then x.q%65536 else 0
def openE (s:ByteArray) (t:Tx) (x:TIn):Int:=match chosenB s x.wit with
 |none=>9
 |some b=>if waitsT t x<(b.delay:Int) then 10 else if b.height>0∧(t.lock<(b.height:Int)∨x.q=4294967295) then 10 else 0
def heightB (n:Int):Bool:=decide (0≤n∧n≤1000000)
def ripeB (t:Tx) (x:TIn) (coin block:Int):Bool:=heightB coin&&heightB block&&decide (coin+waitsT t x≤block)&&(decide (t.lock<block)||t.ins.all fun y=>decide (y.q=4294967295))
def inE (v:Pt→Option Cn) (t:Tx) (h:Int) (x:TIn):Int:=match v x.p with
 |none=>8
 |some c=>if openE c.s t x≠0 then openE c.s t x else if ripeB t x c.h h then 0 else 10
def inV (v:Pt→Option Cn) (x:TIn):Int:=((v x.p).getD cn0).v
def feeP (v:Pt→Option Cn) (t:Tx) (h:Int):Int × Int × Int:=
 if checkT t≠0 then (0,checkT t, -1) else if grantB t then (0,4, -1) else
 match t.ins.findIdx? fun x=>decide (inE v t h x≠0) with
 |some i=>(0,inE v t h (t.ins.getD i default),(i:Nat))
 |none=>if sumE (t.ins.map (inV v))≠0 then (0,sumE (t.ins.map (inV v)), -1) else
  if sumV (values t)>sumV (t.ins.map (inV v)) then (0,12, -1) else (sumV (t.ins.map (inV v)) - sumV (values t),0, -1)
def outSz (y:TOut):Nat:=8+(vnS y.s.size).size+y.s.size
def dustB (y:TOut):Bool:=decide ((y.s.size:Int)≤40)&&decide (y.v<(((3000*(outSz y+67)+999) / 1000:Nat):Int))
def dustI (t:Tx):Int:=idxOf dustB t.outs
def outAt (l:List Ent) (h:Int) (p:Pt):Option Cn:=if outHas l p then ((getE l p.s).tx.outs[p.i.toNat]?).map fun o=>⟨o.v,o.s,h⟩ else none
def overV (f:Pt→Option Cn) (l:List Ent) (h:Int) (p:Pt):Option Cn:=(f p).or (outAt l h p)
def plainP (f:Pt→Option Cn) (l:List Ent) (t:Tx) (h:Int):Int × Int × Int:=
 if checkT t≠0 then (0,checkT t, -1) else if hasE l (idT t) then (0,7, -1) else
 if (feeP (overV f l h) t h).2.1≠0 then (0,(feeP (overV f l h) t h).2) else if 0≤dustI t then (0,13,dustI t) else ((feeP (overV f l h) t h).1,0, -1)
def askedF (rate:Int) (size:Nat):Int:=((((min (max rate 1000) 100000000).toNat*size+999) / 1000:Nat):Int)
def restL (l:List Ent) (t:Tx):List Ent:=dropAll l (idsOf l (evL l t))
def accE (f:Pt→Option Cn) (l:List Ent) (t:Tx) (h rate:Int):Int × Int:=
 if (plainP f l t h).2.1≠0 then (plainP f l t h).2 else if (plainP f l t h).1<askedF rate (sizeT t) then (11, -1) else
 if rulesL l t (plainP f l t h).1≠0 then (rulesL l t (plainP f l t h).1, -1) else if fitsL (restL l t) t≠0 then (fitsL (restL l t) t, -1) else (0, -1)
def accIds (f:Pt→Option Cn) (l:List Ent) (t:Tx) (h rate:Int):List ByteArray:=if (accE f l t h rate).1=0 then idsOf l (evL l t) else []
def accL (f:Pt→Option Cn) (l:List Ent) (t:Tx) (h rate:Int):List Ent:=if (accE f l t h rate).1=0 then (addG (restL l t) t (plainP f l t h).1).1 else l
end Go.K
end
section
namespace Go.Proofs.YtfebcajheojodaaGreatDoor
open Go Go.K
attribute [local irreducible] regK codeK retK KOp.wp K.Spec u32 leS vnS str zero32 sha2 encT idT sizeT checkT grantB idN stepR workL reachE
theorem entOk_fit {x:Ent} (h:EntOk x):goodB x.fee=true∧0≤x.size∧x.size≤100000000000:=by
 refine ⟨h.fee,?_⟩
 have:=(sz_of_check (chk_sm h.check) h.check).size
 rw [h.size]
 omega
theorem gsum_spec {g:Nat} {M:List Nat} {l:List Ent} {v:Value} {ids:List ByteArray} (w:World) (hG:GrR w g M l) (hM:∀b∈M,b<w.heap.size) (hi:SlE strE w v ids) (hn:ids.length≤4000):K.Spec Tryz.prog F.graph_Graph_Sum [.pointer (some ⟨g,0,none⟩),v] w fun r w'=>
  r=.tuple #[.int .i64 (feeD l ids),.int .i64 (sizeD l ids)]∧Ext w w':=by
 have hfit:∀x∈l,goodB x.fee=true∧0≤x.size∧x.size≤100000000000:=fun x hx=>entOk_fit (hG.ok x hx)
 refine s_graph_Graph_Sum rfl ?_
 unfold k_graph_Graph_Sum
 refine oy ?_
 repeat' (first|(first|refine go1 ?_|refine zg (fun _ _=>?_)|refine zi (fun _ _=>?_))|refine zL rfl (fun h=>?_) (fun h=>?_)|(refine st_makeMap (E:=sK) (fv:=fun n:Nat=>Value.int .i64 (n:Nat)) (fun bm w1 x1 m1 hb1=>?_);have lm:=m1.lt)|(refine st_len rfl (SlE.ext (w:=w) (by exact fx) hi) ?_)|(refine c_loopV (fun (p:Nat × List (ByteArray × Nat)) w'=>Ext w w'∧p.1≤ids.length∧MapE sK (fun n:Nat=>Value.int .i64 (n:Nat)) w' bm p.2∧∀s,(inB (ids.take p.1) s=false→aget p.2 s=none)∧(inB (ids.take p.1) s=true→∃c,aget p.2 s=some c∧1≤c∧c≤p.1)) (fun p=> [(0,.pointer (some ⟨g,0,none⟩)),(6,.int .i64 (feeD l (ids.take p.1))),(7,.int .i64 (sizeD l (ids.take p.1))),(8,.map (some bm)),(14,v),(15,.int .i64 (ids.length:Nat)),(16,.int .i64 p.1)]) (fun p=>ids.length - p.1) (0, []) ⟨rfl,rfl,rfl,rfl,rfl,rfl,rfl,trivial⟩ ⟨x1,by simp,m1,fun s=>⟨fun _=>rfl,fun h=>by simp [inB] at h⟩⟩ ?_;rintro ⟨i,met⟩ ρ w3 ⟨x3,hi3,hm,hc⟩;simp only at hi3 hm hc;dsimp only))
 ·have hil:i<ids.length:=by omega
  have hb0:=feeD_bound hfit (ids:=ids.take i) (by rw [List.length_take];omega)
  have hb1':=feeD_bound hfit (ids:=ids.take (i+1)) (by rw [List.length_take];omega)
  have hf:=feeD_take (l:=l) hil
  have hz:=sizeD_take (l:=l) hil
  have hmem:∀s,inB (ids.take (i+1)) s=(inB (ids.take i) s||decide (ids[i]=s)):=fun s=>by
   rw [List.take_succ_eq_append_getElem hil];unfold inB;simp only [List.any_append,List.any_cons,List.any_nil,Bool.or_false]
  refine st_elemE rfl rfl (n:=i) (l:=ids) (hi.ext x3) rfl hil (fun ad r5=>?_)
  have r5:Row w3 ad [Value.string ids[i]]:=r5
  generalize hq:feeD l (ids.take i)=fee0 at*
  generalize hq2:sizeD l (ids.take i)=size0 at*
  cases hin:inB (ids.take i) ids[i] with
  |false=>
   rw [hin] at hf hz
   simp only [Bool.false_eq_true,if_false] at hf hz
   have hno:=(hc ids[i]).1 hin
   repeat' (first|(first|refine go1 ?_|refine zg (fun _ _=>?_)|refine zi (fun _ _=>?_))|(refine st_lookup (d:=some 22) (E:=sK) (fv:=fun n:Nat=>Value.int .i64 (n:Nat)) (k:=ids[i]) rfl rfl hm rfl rfl (fun c hcc=>by rw [hno] at hcc;cases hcc) (fun hcn=>?_))|(refine st_mapUpdate (E:=sK) (fv:=fun n:Nat=>Value.int .i64 (n:Nat)) (k:=ids[i]) (v:=1) rfl rfl rfl hm rfl rfl (fun w4 c4 m4=>?_);have x4:Ext w w4:=(Ext.chg x3 c4).mono (by intro y hy;simp at hy;right;omega);clear x3)|(refine st_lookup (d:=some 26) (E:=sK) (fv:=fun n:Nat=>Value.int .i64 (n:Nat)) (k:=ids[i]) rfl rfl m4 rfl rfl (fun c hcc=>?_) (fun hcn=>by rw [aget_set',if_pos rfl] at hcn;cases hcn);rw [aget_set',if_pos rfl] at hcc;injection hcc with hcc;subst hcc)|(refine zL rfl (fun h9=>absurd h9 (by decide)) (fun h9=>?_))|(refine zC rfl (get_spec (M:=M) ids[i] _ (hG.ext (by exact fx)) (fun b hb=>Nat.lt_of_lt_of_le (hM b hb) (Ext.size (by exact fx)))) ?_;rintro _ w5 ⟨ds,rfl,e5,x5⟩;obtain ⟨iv,ov,rfl,o1,o2,o3⟩:=e5;have i1:=o1.one;have i2:=o2.one)|(refine zE (d':=11) (fun _=>rfl) rfl rfl (by simp [entCs,i1,i2];exact ⟨rfl,rfl,rfl,rfl,rfl⟩) (fun b6 w6 x6 a6 (r6:Row w6 ⟨b6,0,none⟩ (entCs (getE l ids[i]) iv ov)) hb6=>?_)))
   refine ⟨(i+1,aset met ids[i] 1),⟨rfl,?_,?_,rfl,rfl,rfl,rfl,trivial⟩,⟨by exact fx,by simp;omega,m4.ext (by exact fx),fun s=>?_⟩,by simp;omega⟩
   ·show _=Value.int .i64 (feeD l (ids.take (i+1)));rw [hf];rw [hf] at hb1';exact congrArg (Value.int .i64) (IntWalk.i64_in _ (by show -9223372036854775808≤fee0+(getG l ids[i]).fee∧fee0+(getG l ids[i]).fee≤9223372036854775807;omega))
   ·show _=Value.int .i64 (sizeD l (ids.take (i+1)));rw [hz];rw [hz] at hb1';exact congrArg (Value.int .i64) (IntWalk.i64_in _ (by show -9223372036854775808≤size0+(getG l ids[i]).size∧size0+(getG l ids[i]).size≤9223372036854775807;omega))
   ·show (inB (ids.take (i+1)) s=false→_)∧(inB (ids.take (i+1)) s=true→∃c,_∧1≤c∧c≤i+1)
    rw [hmem,aget_set']
    by_cases e:ids[i]=s
    ·rw [if_pos e,decide_eq_true e];exact ⟨fun h=>by simp at h,fun _=>⟨1,rfl,by omega,by omega⟩⟩
    ·rw [if_neg e,decide_eq_false e,Bool.or_false]
     exact ⟨(hc s).1,fun h=>by obtain ⟨c,q1,q2,q3⟩:=(hc s).2 h;exact ⟨c,q1,q2,by omega⟩⟩
  |true=>
   rw [hin] at hf hz
   simp only [if_true] at hf hz
   obtain ⟨c0,hc0,hc1,hc2⟩:=(hc ids[i]).2 hin
   repeat' (first|(first|refine go1 ?_|refine zg (fun _ _=>?_)|refine zi (fun _ _=>?_))|(refine st_lookup (d:=some 22) (E:=sK) (fv:=fun n:Nat=>Value.int .i64 (n:Nat)) (k:=ids[i]) rfl rfl hm rfl rfl (fun c hcc=>?_) (fun hcn=>by rw [hc0] at hcn;cases hcn);rw [hc0] at hcc;injection hcc with hcc;subst hcc)|(refine st_mapUpdate (E:=sK) (fv:=fun n:Nat=>Value.int .i64 (n:Nat)) (k:=ids[i]) (v:=c0+1) rfl rfl rfl hm rfl rfl (fun w4 c4 m4=>?_);have x4:Ext w w4:=(Ext.chg x3 c4).mono (by intro y hy;simp at hy;right;omega);clear x3)|(refine st_lookup (d:=some 26) (E:=sK) (fv:=fun n:Nat=>Value.int .i64 (n:Nat)) (k:=ids[i]) rfl rfl m4 rfl rfl (fun c hcc=>?_) (fun hcn=>by rw [aget_set',if_pos rfl] at hcn;cases hcn);rw [aget_set',if_pos rfl] at hcc;injection hcc with hcc;subst hcc)|(refine zL rfl (fun h9=>?_) (fun h9=>absurd h9 (by omega))))
   refine ⟨(i+1,aset met ids[i] (c0+1)),⟨rfl,?_,?_,rfl,rfl,rfl,rfl,trivial⟩,⟨by exact fx,by simp;omega,m4.ext (by exact fx),fun s=>?_⟩,by simp;omega⟩
   ·show _=Value.int .i64 (feeD l (ids.take (i+1)));rw [hf];rfl
   ·show _=Value.int .i64 (sizeD l (ids.take (i+1)));rw [hz];rfl
   ·show (inB (ids.take (i+1)) s=false→_)∧(inB (ids.take (i+1)) s=true→∃c,_∧1≤c∧c≤i+1)
    rw [hmem,aget_set']
    by_cases e:ids[i]=s
    ·rw [if_pos e,decide_eq_true e];exact ⟨fun h=>by simp at h,fun _=>⟨c0+1,rfl,by omega,by omega⟩⟩
    ·rw [if_neg e,decide_eq_false e,Bool.or_false]
     exact ⟨(hc s).1,fun h=>by obtain ⟨c,q1,q2,q3⟩:=(hc s).2 h;exact ⟨c,q1,q2,by omega⟩⟩
 ·have ei:i=ids.length:=by omega
  subst ei
  rw [List.take_of_length_le (Nat.le_refl _)]
  exact x_ret rfl ⟨rfl,x3⟩
end Go.Proofs.YtfebcajheojodaaGreatDoor
end
section
namespace Go.K
open Go
variable {l:List Ent}
end Go.K
end
section
namespace Go.Proofs.YtfebcajheojodaaGreatDoor
open Go Go.K
attribute [local irreducible] regK codeK retK KOp.wp K.Spec u32 leS vnS str zero32 sha2 encT idT sizeT checkT grantB idN stepR workL reachE findI dropG addG aboveL belowL inS idsOf feeD sizeD
theorem GrR.apart {w:World} {g:Nat} {M:List Nat} {l:List Ent} (h:GrR w g M l):l.Pairwise fun x y=>∀p,spends x p=true→spends y p=false:=by
 obtain ⟨b1,vo,b2,m,sp,hP⟩:=h;exact hP.inv.apart
end Go.Proofs.YtfebcajheojodaaGreatDoor
end
section
namespace Go.K
open Go Go.Proofs.YtfebcajheojodaaGreatDoor
section
variable {l:List Ent} {t:Tx}
theorem has_iff {s:ByteArray}:hasE l s=true↔∃x∈l,x.id=s:=by
 unfold hasE
 rw [List.any_eq_true]
 exact ⟨fun ⟨x,h1,h2⟩=>⟨x,h1,of_decide_eq_true h2⟩,fun ⟨x,h1,h2⟩=>⟨x,h1,decide_eq_true h2⟩⟩
theorem hit_iff {x:Ent}:hitE t x=true↔∃b∈t.ins,spends x b.p=true:=by
 unfold hitE spends
 simp only [List.any_eq_true,decide_eq_true_eq]
 constructor
 ·rintro ⟨a,ha,b,hb,e⟩;exact ⟨b,hb,a,ha,e⟩
 ·rintro ⟨b,hb,a,ha,e⟩;exact ⟨a,ha,b,hb,e⟩
theorem hit_self {x:Ent} (h:0<x.tx.ins.length):hitE x.tx x=true:=by
 rw [hit_iff]
 refine ⟨x.tx.ins[0],List.getElem_mem h,?_⟩
 unfold spends
 exact List.any_eq_true.2 ⟨_,List.getElem_mem h,decide_eq_true rfl⟩
theorem comes_add (hn:(l.map (·.id)).Nodup) (hc:checkT t=0) (hi:0<t.ins.length) (hg:grantB t=false) {f:Int} (hf:goodB f=true):
  (addG (leftL l (evL l t)) t f).2=0∨((addG (leftL l (evL l t)) t f).2=7∧hasE (leftL l (evL l t)) (idT t)=true∧(getE (leftL l (evL l t)) (idT t)).tx≠t):=by
 have none:∀x∈leftL l (evL l t),hitE t x=false:=fun x hx=>by
  rw [←Bool.not_eq_true]
  exact fun h=>leftL_not l _ hn hx (conf_ev hn ((leftL_sub _ _).subset hx) h)
 unfold addG
 rw [if_neg (by simpa using hc),if_neg (by simp [hg]),if_neg (by simp [hf])]
 by_cases h7:((leftL l (evL l t)).any fun x=>decide (x.id=idT t))=true
 ·rw [if_pos h7]
  refine .inr ⟨rfl,h7,fun e=>?_⟩
  have hm:=(has_mem (l:=leftL l (evL l t)) h7).1
  have h1:=none _ hm
  have h2:hitE (getE (leftL l (evL l t)) (idT t)).tx (getE (leftL l (evL l t)) (idT t))=true:=hit_self (by rw [e];exact hi)
  rw [e] at h2
  rw [h1] at h2
  cases h2
 ·rw [if_neg h7]
  have h8:(t.ins.any fun i=>(leftL l (evL l t)).any fun x=>spends x i.p)=false:=by
   rw [List.any_eq_false]
   intro b hb h
   obtain ⟨x,hx,h2⟩:=List.any_eq_true.1 h
   have h3:=none x hx
   rw [hit_iff.2 ⟨b,hb,h2⟩] at h3
   cases h3
  rw [if_neg (by simp [h8])]
  exact .inl rfl
end
end Go.K
end
section
namespace Go.K
open Go Go.Proofs.YtfebcajheojodaaGreatDoor
def delAll (A:List En) (ps:List Pt):List En:=ps.foldl adel A
theorem delAll_mem:∀(ps:List Pt) (A:List En) {e:En},e∈delAll A ps→e∈A
 | [],A,e,h=>h
 |q::ps,A,e,h=>(List.mem_filter.1 (delAll_mem ps (adel A q) h)).1
theorem tot_delAll:∀(ps:List Pt) (A:List En),(A.map (·.1)).Nodup→ps.Nodup→(∀p∈ps,(aget A p).isSome=true)→tot (delAll A ps)=tot A - (ps.map fun p=>((aget A p).getD cn0).v).sum
 | [],A,_,_,_=>by simp [delAll]
 |q::ps,A,hA,hp,hs=>by
  rw [List.nodup_cons] at hp
  obtain ⟨c,hc⟩:=Option.isSome_iff_exists.1 (hs q (by simp))
  have hk:((adel A q).map (·.1)).Nodup:=hA.sublist (List.Sublist.map _ List.filter_sublist)
  have hq:∀p∈ps,aget (adel A q) p=aget A p:=fun p h=>by
   rw [aget_del,if_neg]
   rintro rfl;exact hp.1 h
  have ih:=tot_delAll ps (adel A q) hk hp.2 (fun p h=>by rw [hq p h];exact hs p (by simp [h]))
  show tot (delAll (adel A q) ps)=_
  rw [ih,tot_del hA hc,List.map_cons,List.sum_cons,hc,List.map_congr_left (g:=fun p=>((aget A p).getD cn0).v) fun p h=>by rw [hq p h]]
  simp only [Option.getD_some];omega
end Go.K
end
