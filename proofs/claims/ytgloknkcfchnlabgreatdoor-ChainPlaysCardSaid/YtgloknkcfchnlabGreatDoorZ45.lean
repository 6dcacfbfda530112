/- Contracts: a chain, a block connected. Contracts: a chain, i -/
import Derived.Test.YtgloknkcfchnlabGreatDoorZ13
import Derived.Test.YtgloknkcfchnlabGreatDoorZ41
import Derived.Test.YtgloknkcfchnlabGreatDoorZ42
import Derived.Test.YtgloknkcfchnlabGreatDoorZ43
set_option linter.unusedVariables false
set_option linter.unusedSimpArgs false
namespace Go.Proofs.YtgloknkcfchnlabGreatDoor
section
open Go Go.K
attribute [local irreducible] aG aK aU KOp.wp K.Spec u32 leS vnS str aN aJ aP bH idT aV
theorem aWf {P:Program} {d:Option Tmp} {r:KR} {K:Env→World→Prop} {ρ:Env} {w:World} {x y:Operand} {a b:Nat} (hx:ev ρ x=.int .i64 (a:Nat)) (hy:ev ρ y=.int .i64 (b:Nat)) (k:aG P r K (put ρ d (.int .i64 (max a b:Nat))) w):aG P (.cons ⟨d,.minmax true x [y],none⟩ r) K ρ w:=
 cJ rfl (by
  have e:(if (a:Int)<(b:Int) then (b:Int) else (a:Int))=((max a b:Nat):Int):=by split<;>omega
  simp only [KOp.fix,List.foldl_cons,List.foldl_nil,hx,hy,Option.bind_some,rF,if_true,e]) k
theorem pP.off {w w':World} {b6:Nat} {z:Array Value} {t:TypeId} (ha:At w b6 (.cells z t (0,0))) (ht:t≠T.api_Fault) (cc:Chg [b6] w w') {v:Value} {c a i:Int} (h:pP w v c a i):pP w' v c a i:=by
 rcases h with h|⟨h1,h|⟨h2,b,u,h3,h4,h5⟩⟩
 ·exact .inl h
 ·exact .inr ⟨h1,.inl h⟩
 ·refine .inr ⟨h1,.inr ⟨h2,b,u,h3,h4.chg cc ?_,dA.off ha ht cc h5⟩⟩
  simp only [List.mem_singleton]
  intro e
  subst e
  have:=h4.inj ha
  simp only [Obj.cells.injEq] at this
  exact ht this.2.1.symm
theorem pP.ext {w w':World} {v:Value} {c a i:Int} (h:pP w v c a i) (x:Ext w w'):pP w' v c a i:=by
 rcases h with h|⟨h1,h|⟨h2,b,u,h3,h4,h5⟩⟩
 ·exact .inl h
 ·exact .inr ⟨h1,.inl h⟩
 ·exact .inr ⟨h1,.inr ⟨h2,b,u,h3,h4.ext x,h5.ext x⟩⟩
theorem aUq {M:List Nat} {w:World} {b:Nat} {v:Value} {l:List En} {t:TypeId} (h:SlR enR M w v l) (ha:At w b (.cells [Value.slice none 0 0,.slice none 0 0].toArray t (0,0))):SlR enR (b::M) w v l:=
 SlR.off h ha (fun cs x hr=>⟨.string x.1.s,_,hr,by simp⟩) (fun cs x hr=>hr)
theorem aNg {l0:List En} {h:Int}:∀(txs:List Tx) (i:Nat) (m:List En),(jC l0 h i txs m).2.1≠0→(jC l0 h i txs m).1=l0
 | [],_,_,h0=>absurd rfl h0
 |t::ts,i,m,h0=>by
  unfold jC at h0 ⊢
  split
  ·rfl
  ·rename_i hc
   rw [if_neg hc] at h0
   exact aNg ts (i+1) _ h0
theorem aD5 {l:List En} {txs:List Tx} {b:Int} (h0:(aP l txs b).2.1≠0):(aP l txs b).1=l:=by
 unfold aP at h0 ⊢
 split
 ·rfl
 ·rename_i hc
  rw [if_neg hc] at h0
  exact aNg _ _ _ h0
def bAw (w:World) (b mb:Nat) (l:List En) (x:List En × Int × Int × Int) (b5:Nat) (sv mv e:Value) (w':World):Prop:=
 pP w' e x.2.1 x.2.2.1 x.2.2.2∧dD T.coins_Set w' b mb x.1∧(x.2.1=0→SlE bE w' sv (bO l x.1)∧SlE bE w' mv (bO x.1 l)∧∀y,y∈aH sv∨y∈aH mv→w.heap.size≤y)∧(x.2.1≠0→sv=.slice none 0 0∧mv=.slice none 0 0)∧Chg [b,mb] w w'∧
  At w' b5 (.cells [Value.slice none 0 0,.slice none 0 0].toArray T.block_Undo (0,0))∧w.heap.size≤b5
set_option maxHeartbeats 4000000 in
theorem aCw {U:List Nat} {B c:Nat} {M N:List Nat} {ch:Ch} {v:Value} {txs:List Tx} (w:World) (h:ChR U w B c M ch) (hx:SlR txR N w v txs) (hMN:∀y∈M,y∈N) (hU:∀y∈U,y∈N) (hUl:∀y∈U,y<w.heap.size) (hs:∀t∈txs,t.Sm) (hk0:txs.length≤1000) (hn:(aY ch.bs).length+cN txs≤80000) (hl:ch.bs.length≤100000) (ht:ch.top≤100000):
  K.Spec Tryz.prog F.chain_Chain_Connect [.pointer (some ⟨c,0,none⟩),v] w fun r w'=>(∃i,pP w' r (jN ch txs).1 (jN ch txs).2 i)∧(∃M',ChR U w' B c M' (fI ch txs)∧∀y∈M',y∈M∨w.heap.size≤y)∧Chg M w w':=by
 have hlt:=h.lt
 obtain ⟨b,mb,lv,h1,h2,h3,hM,g1,g2,g3,g4,g5,g6,g8⟩:=id h
 have hcM:c∈M:=by rw [hM];simp
 have hbM:b∈M:=by rw [hM];simp
 have hmM:mb∈M:=by rw [hM];simp
 have hlM:∀y∈aH lv,y∈M:=fun y hy=>by rw [hM];simp [hy]
 have g7:=h2.ne
 have lc:=hlt c hcM
 have lb:=hlt b hbM
 have lm:=hlt mb hmM
 have r1:=Row.of_at h1
 have sl:=h3.sl (fun y hy hv=>by
  rcases List.mem_append.1 hy with hy|hy
  ·have:=g6 y hv;simp at hy;omega
  ·exact g8 y (hlM y hv) hy)
 have hll:(bQ ch.bs).length=ch.bs.length:=qU _
 have eI:(((bQ ch.bs).length:Nat):Int)+1=((ch.bs.length+1:Nat):Int):=by rw [hll];omega
 refine rT rfl ?_
 unfold jO
 refine oy ?_
 repeat (first|refine zG (d:=some 16) (E:=lkR) (l:=bQ ch.bs) rfl sl ?_|refine aD (d:=some 17) (.bool false) rfl (congrArg (fun b=>some (Value.bool b)) (dFa (by omega))) ?_|refine zG (d:=some 29) (E:=lkR) (l:=bQ ch.bs) rfl (SlR.ext sl (by exact fx)) ?_|(refine zg (fun w1 x12=>?_);have s12:=x12.size)|refine jE (b:=.cons ⟨none,.storeN _ _ _,_⟩ _) (fun (p:Nat × Value × Value × Value) w'=>bAw w b mb (aY ch.bs) (aP (aY ch.bs) txs ((ch.bs.length+1:Nat):Int)) p.1 p.2.1 p.2.2.1 p.2.2.2 w') (fun p=> [(0,.pointer (some ⟨c,0,none⟩)),(1,v),(5,.pointer (some ⟨p.1,0,none⟩)),(32,.agg #[p.2.1,p.2.2.1]),(33,p.2.2.2)]) ?_ ?_|refine go1 ?_|refine zg λ_ _=>?_|refine zi λ_ _=>?_)
 ·have hc0:=fU ch.bs ch.bs.length
  have hs0:=qL ch.bs ch.bs.length
  rw [eI]
  refine zB ?_ ?_
  ·repeat (first|refine zi (fun w2 x2=>?_)|(refine zC (d:=some 31) rfl (eJ (M:=M) (l:=aY ch.bs) ((ch.bs.length+1:Nat):Int) _ (h2.ext (by exact fx)) hc0 hs0 hbM hmM (fun y hy=>nLt (hlt y hy) (Ext.size (show Ext w _ by exact fx))) ((hx.sub (fun y hy=>.inl (hMN y hy))).ext (by exact fx)) hs hn hk0) ?_;rintro _ w6 ⟨sv,mv,e,rfl,hA1,hA2,hA3,hA4,hA5⟩)|refine zH (d:=some 5) (fun b5 w5 x5 a5 hb5=>?_)|refine go1 ?_|refine zg λ_ _=>?_|refine zi λ_ _=>?_)
   exact ⟨(b5,sv,mv,e),⟨rfl,rfl,rfl,rfl,rfl,trivial⟩,hA1.ext x5,hA2.ext x5,fun q=>⟨(hA3 q).1.ext x5,(hA3 q).2.1.ext x5,fun y hy=>nTr s12 ((hA3 q).2.2 y hy)⟩,hA4,(Chg.trans x12 (hA5.trans x5)).mono (by simp),a5,nTr (nTr s12 hA5.size) hb5⟩
  ·repeat (first|refine zi (fun w2 x2=>?_)|(refine zC (d:=some 31) rfl (eJ (M:=M) (l:=aY ch.bs) ((ch.bs.length+1:Nat):Int) _ (h2.ext (by exact fx)) hc0 hs0 hbM hmM (fun y hy=>nLt (hlt y hy) (Ext.size (show Ext w _ by exact fx))) ((hx.sub (fun y hy=>.inl (hMN y hy))).ext (by exact fx)) hs hn hk0) ?_;rintro _ w6 ⟨sv,mv,e,rfl,hA1,hA2,hA3,hA4,hA5⟩)|refine zH (d:=some 5) (fun b5 w5 x5 a5 hb5=>?_)|refine go1 ?_|refine zg λ_ _=>?_|refine zi λ_ _=>?_)
   exact ⟨(b5,sv,mv,e),⟨rfl,rfl,rfl,rfl,rfl,trivial⟩,hA1,hA2,fun q=>⟨(hA3 q).1,(hA3 q).2.1,fun y hy=>nTr (nTr s12 x5.size) ((hA3 q).2.2 y hy)⟩,hA4,(Chg.trans x12 (Chg.trans x5 hA5)).mono (by simp),a5.chg hA5 (by simp;omega),nTr s12 hb5⟩
 ·rintro ⟨b5,sv,mv,e⟩ ρ w3 ⟨hA1,hA2,hA3,hA4,hA5,a5,hb5⟩
  dsimp only
  simp only at hA1 hA2 hA3 hA4 hA5 a5 hb5
  have o1:sv.oneCell'=true:=by
   by_cases h0:(jN ch txs).1=0
   ·obtain ⟨_,_,_,q, -⟩:=(hA3 h0).1;rw [q];rfl
   ·rw [(hA4 h0).1];rfl
  have o2:mv.oneCell'=true:=by
   by_cases h0:(jN ch txs).1=0
   ·obtain ⟨_,_,_,q, -⟩:=(hA3 h0).2.1;rw [q];rfl
   ·rw [(hA4 h0).2];rfl
  refine bG (b:=b5) (vs:= [sv,mv]) rfl rfl rfl (by simp [o1,o2]) a5 rfl (fun w4 c4 a4=>?_)
  by_cases h0:(jN ch txs).1=0
  ·obtain ⟨hsv,hmv,hsb⟩:=hA3 h0
   have he:e=.nilIface:=by
    rcases hA1 with ⟨_,h5⟩|⟨h5, -⟩
    ·exact h5
    ·exact absurd h0 h5
   subst he
   have e0:(jN ch txs).1=0:=h0
   have e2:fI ch txs=⟨ch.bs++ [txs],max ch.top (ch.bs.length+1)⟩:=by
    unfold fI
    rw [if_neg (by simpa using h0)]
   obtain ⟨lk,hlk⟩:∃lk:Lk,lk=⟨txs,bO (aY ch.bs) (aP (aY ch.bs) txs ((ch.bs.length+1:Nat):Int)).1,bO (aP (aY ch.bs) txs ((ch.bs.length+1:Nat):Int)).1 (aY ch.bs)⟩:=⟨_,rfl⟩
   have elk:(⟨txs,lk.spent,lk.made⟩:Lk)=lk:=by rw [hlk]
   have c04:Chg [b,mb,b5] w w4:=hA5.trans c4
   have s04:=c04.size
   have hin:∀y∈aH lv++([c,b,mb]++U),y∈M∨y∈U:=fun y hy=>by
    simp at hy
    rcases hy with hy|rfl|rfl|rfl|hy
    ·exact .inl (hlM y hy)
    ·exact .inl hcM
    ·exact .inl hbM
    ·exact .inl hmM
    ·exact .inr hy
   have hinl:∀y∈aH lv++([c,b,mb]++U),y<w.heap.size:=fun y hy=>(hin y hy).elim (hlt y) (hUl y)
   have hinN:∀y∈aH lv++([c,b,mb]++U),y∈N:=fun y hy=>(hin y hy).elim (hMN y) (hU y)
   have hsv4:SlR enR (aH lv++([c,b,mb]++U)) w4 sv lk.spent:=by
    have q1:SlR enR (aH lv++([c,b,mb]++U)) w3 sv _:=hsv.en fun y hy hm=>by have:=hsb y (.inl hy);have:=hinl y hm;omega
    rw [hlk]
    exact (aUq q1 a5).step c4 (fun y hy=>.inl (by simp at hy;simp [hy])) (fun y hy=>.inl (List.mem_cons_of_mem _ hy))
   have hmv4:SlR enR (aH lv++([c,b,mb]++U)) w4 mv lk.made:=by
    have q1:SlR enR (aH lv++([c,b,mb]++U)) w3 mv _:=hmv.en fun y hy hm=>by have:=hsb y (.inr hy);have:=hinl y hm;omega
    rw [hlk]
    exact (aUq q1 a5).step c4 (fun y hy=>.inl (by simp at hy;simp [hy])) (fun y hy=>.inl (List.mem_cons_of_mem _ hy))
   have hx4:SlR txR N w4 v txs:=hx.step c04 (fun y hy=>by
    simp at hy
    rcases hy with rfl|rfl|rfl
    ·exact .inl (hMN _ hbM)
    ·exact .inl (hMN _ hmM)
    ·exact .inr hb5) (fun y hy=>.inl hy)
   have own4:bD lkR T.chain_link B ([c,b,mb]++U) w4 lv (bQ ch.bs):=h3.step c04 (fun y hy=>by
    simp at hy
    rcases hy with rfl|rfl|rfl
    ·exact ⟨fun h=>(g6 _ h).2.1 rfl,.inl (by simp)⟩
    ·exact ⟨fun h=>(g6 _ h).2.2 rfl,.inl (by simp)⟩
    ·exact ⟨fun h=>by have:=hlt _ (hlM _ h);omega,.inr hb5⟩) (fun y hy=>.inl hy)
   have h14:At w4 c (.cells (aG5 b lv ch.top).toArray T.chain_Chain (0,0)):=h1.chg c04 (by simp;omega)
   have S4:dD T.coins_Set w4 b mb (aY (ch.bs++ [txs])):=by
    rw [aCm]
    exact hA2.chg c4 (by simp;omega) (by simp;omega)
   have r14:=Row.of_at h14
   have r54:=Row.of_at a4
   have hlt4:∀y∈aH lv++([c,b,mb]++U),y<w4.heap.size:=fun y hy=>nLt (hinl y hy) s04
   have hB4:B≤w4.heap.size:=by omega
   have ow:lv.oneCell'=true:=h3.one
   clear hA1 hA2 hA3 hA4 hA5 a5 a4 c4 hsv hmv r1 sl h2 h3 h1 h
   repeat (first|refine zg (fun w5 x5=>?_)|refine jE (b:=.cons ⟨some 46,_,_⟩ _) (fun (p:Nat × List Value) w'=>Ext w4 w'∧At w' p.1 (.cells p.2.toArray T.chain_link (0,0))∧lkR.rel (aH lv++([c,b,mb]++U)) w' p.2 lk) (fun p=> [(0,.pointer (some ⟨c,0,none⟩)),(37,.pointer (some ⟨c,0,none⟩)),(41,lv),(45,.slice (some ⟨p.1,0,none⟩) 1 1)]) ?_ ?_|refine go1 ?_|refine zg λ_ _=>?_|refine zi λ_ _=>?_)
   ·repeat' (first|refine zB ?_ ?_|(refine zC (d:=some 44) rfl (aMj (M:=aH lv++([c,b,mb]++U)) (N:=N) (txs:=txs) (spent:=lk.spent) (made:=lk.made) _ (hx4.ext (by exact fx)) hs (fun y hy=>hinN y hy) (fun y hy=>nLt (hlt4 y hy) (Ext.size (show Ext w4 _ by exact fx))) hk0 (SlR.ext hsv4 (by exact fx)) (SlR.ext hmv4 (by exact fx))) ?_;rintro _ w6 ⟨cs,rfl,rel6,x6⟩;obtain ⟨tv,iv,sv',mv',mp,rfl,z1,z2,z3,z4,z5⟩:=id rel6)|refine zI (d:=some 45) (cs:= [tv,iv,sv',mv',mp]) rfl (fun b7 w7 x7 a7 hb7=>?_)|refine go1 ?_|refine zg λ_ _=>?_|refine zi λ_ _=>?_)
    all_goals exact aA9 ⟨(b7, [tv,iv,sv',mv',mp]),⟨rfl,rfl,rfl,rfl,trivial⟩,x5.trans (x6.trans x7),a7,(congrArg (lkR.rel (aH lv++([c,b,mb]++U)) _ _) elk).mp (R.ext rel6 x7)⟩
   ·rintro ⟨b7,cs⟩ ρ w8 ⟨x8,a7,rel8⟩
    dsimp only at x8 a7 rel8 ⊢
    have s8:=x8.size
    refine fM (d:=some 46) (E:=lkR) (M:= [c,b,mb]++U) (v:=lv) (cs:=cs) (a:=lk) (B:=B) rfl rfl (own4.ext x8) (nTr hB4 s8) rfl rfl a7 rel8 (by rw [hll];omega) (fun v9 w9 o9 c9 hb9=>?_)
    have s9:=c9.size
    have h19:At w9 c (.cells (aG5 b lv ch.top).toArray T.chain_Chain (0,0)):=(h14.ext x8).chg c9 (fun h=>(g6 _ h).1 rfl)
    have S9:dD T.coins_Set w9 b mb (aY (ch.bs++ [txs])):=(S4.ext x8).chg c9 (fun h=>(g6 _ h).2.1 rfl) (fun h=>(g6 _ h).2.2 rfl)
    have o9b:∀y∈aH v9,y≠c∧y≠b∧y≠mb:=fun y hy=>by
     rcases hb9 y hy with h|h
     ·exact g6 y h
     ·omega
    repeat (first|refine go1 ?_|refine zg λ_ _=>?_|refine zi λ_ _=>?_)
    refine bB (b:=c) (o:=1) (cur:=aG5 b lv ch.top) rfl rfl o9.one h19 (Nat.le_of_ble_eq_true rfl) (fun w10 c10 a10=>?_)
    have o10:=o9.step c10 (M':= [c,b,mb]++U) (fun y hy=>by
     simp at hy;subst hy
     exact ⟨fun h=>(o9b _ h).1 rfl,.inl (by simp)⟩) (fun y hy=>.inl hy)
    have S10:=S9.chg c10 (by simp;omega) (by simp;omega)
    have a10':At w10 c (.cells (aG5 b v9 ch.top).toArray T.chain_Chain (0,0)):=a10
    have r10:=Row.of_at a10'
    have o9u:∀y∈aH v9,y∉U:=fun y hy hu=>by
     rcases hb9 y hy with h|h
     ·exact g8 y (hlM y h) hu
     ·have:=hUl y hu;omega
    have sl10:=o10.sl (fun y hy hv=>by
     rcases List.mem_append.1 hy with hy|hy
     ·have:=o9b y hv;simp at hy;omega
     ·exact o9u y hv hy)
    have ell:(bQ ch.bs++ [lk]).length=ch.bs.length+1:=by simp [hll]
    repeat (first|refine zg (fun w11 x11=>?_)|refine zG (d:=some 58) (E:=lkR) (l:=bQ ch.bs++ [lk]) rfl (SlR.ext sl10 (by exact fx)) ?_|refine aWf (d:=some 59) (a:=ch.top) (b:=(bQ ch.bs++ [lk]).length) rfl rfl ?_|refine go1 ?_|refine zg λ_ _=>?_|refine zi λ_ _=>?_)
    refine bB (b:=c) (o:=2) (cur:=aG5 b v9 ch.top) rfl rfl rfl (a10'.ext x11) (Nat.le_of_ble_eq_true rfl) (fun w12 c12 a12=>?_)
    repeat (first|refine go1 ?_|refine zg λ_ _=>?_|refine zi λ_ _=>?_)
    have o12:=(o10.ext x11).step c12 (M':= [c,b,mb]++U) (fun y hy=>by
     simp at hy;subst hy
     exact ⟨fun h=>(o9b _ h).1 rfl,.inl (by simp)⟩) (fun y hy=>.inl hy)
    have a12':At w12 c (.cells (aG5 b v9 (max ch.top (ch.bs.length+1))).toArray T.chain_Chain (0,0)):=by rw [←ell];exact a12
    refine aB rfl ⟨⟨-1,.inl ⟨e0,rfl⟩⟩,⟨[c,b,mb]++aH v9,?_,fun y hy=>?_⟩,?_⟩
    ·rw [e2]
     refine ⟨b,mb,v9,a12',(S10.ext x11).chg c12 (by simp;omega) (by simp;omega),?_,rfl,g1,g2,g3,g4,g5,o9b,fun y hy hu=>by
      simp at hy
      rcases hy with rfl|rfl|rfl|hy
      ·exact g8 _ hcM hu
      ·exact g8 _ hbM hu
      ·exact g8 _ hmM hu
      ·exact o9u y hy hu⟩
     rw [aKz,←hlk]
     exact o12
    ·simp at hy
     rcases hy with rfl|rfl|rfl|hy
     ·exact .inl hcM
     ·exact .inl hbM
     ·exact .inl hmM
     ·exact (hb9 y hy).imp (hlM y) (fun h=>by omega)
    ·have q:=(((Chg.trans (c04.trans x8) c9).trans c10).trans x11).trans c12
     refine q.mono fun y hy=>?_
     simp at hy
     rcases hy with rfl|rfl|rfl|hy|rfl
     ·exact .inl hbM
     ·exact .inl hmM
     ·exact .inr hb5
     ·exact .inl (hlM y hy)
     ·exact .inl hcM
  ·have hA14:=hA1.off a5 (by decide) c4
   rcases hA14 with ⟨h5, -⟩|⟨-,h5⟩
   ·exact absurd h5 h0
   obtain ⟨et,eu,rfl⟩:∃et eu,e=.iface et eu:=by
    rcases h5 with ⟨h5, -⟩|⟨-,_,_,h5, -⟩
    ·exact ⟨_,_,h5⟩
    ·exact ⟨_,_,h5⟩
   repeat (first|refine go1 ?_|refine zg λ_ _=>?_|refine zi λ_ _=>?_)
   refine aB rfl ⟨⟨_,hA1.off a5 (by decide) c4⟩,⟨M,?_,fun y hy=>.inl hy⟩,(hA5.trans c4).mono (fun y hy=>by
    simp at hy
    rcases hy with rfl|rfl|rfl
    ·exact .inl hbM
    ·exact .inl hmM
    ·exact .inr hb5)⟩
   have e1:fI ch txs=ch:=by unfold fI;rw [if_pos h0]
   rw [e1]
   rw [aD5 h0] at hA2
   exact ⟨b,mb,lv,h1.chg (hA5.trans c4) (by simp;omega),hA2.chg c4 (by simp;omega) (by simp;omega),h3.step (hA5.trans c4) (fun y hy=>by
    simp at hy
    rcases hy with rfl|rfl|rfl
    ·exact ⟨fun h=>(g6 _ h).2.1 rfl,.inl (by simp)⟩
    ·exact ⟨fun h=>(g6 _ h).2.2 rfl,.inl (by simp)⟩
    ·exact ⟨fun h=>by have:=hlt _ (hlM _ h);omega,.inr hb5⟩) (fun y hy=>.inl hy),hM,g1,g2,g3,g4,g5,g6,g8⟩
end
end Go.Proofs.YtgloknkcfchnlabGreatDoor
section
namespace Go.K
open Go
section
variable {P:Program} {d:Option Tmp} {r:KR} {K:Env→World→Prop} {ρ:Env} {w:World}
theorem aTc {α:Type} {E:R α} {t:TypeId} {B:Nat} {M:List Nat} {v:Value} {l:List α} {size:Nat} {x i:Operand} {kd:IntKind} {n:Nat} (hx:ev ρ x=v) (hi:ev ρ i=.int kd (n:Nat)) (hs:bD E t B M w v l) (hk:size=E.k) (hr:n<l.length)
  (k:∀ad cs,Row w ad cs→E.rel (aH v++M) w cs l[n]→aG P r K (put ρ d (.pointer (some ad))) w):aG P (.cons ⟨d,.indexAddr size x i,none⟩ r) K ρ w:=by
 obtain ⟨css,h1,h2⟩:=hs
 have hr':n<css.length:=by rw [h2.length];exact hr
 exact aQ (E:=fY E.k E.pos) hx hi h1.sl hk hr' fun ad hrow=>k ad _ hrow (h2.get n hr' hr)
theorem aEc {x:Operand} {n:Nat} (hx:ev ρ x=.int .i64 (n:Nat)) (h0:0<n) (hr:n≤1000000) (k:aG P r K (put ρ d (.int .i64 (n - 1:Nat))) w):aG P (.cons ⟨d,.bin .sub x (.const (.int .i64 1)),none⟩ r) K ρ w:=
 aU9 hx rfl (by omega) (by rw [show ((n:Nat):Int) - 1=((n - 1:Nat):Int) by omega];exact k)
theorem aXf {size:Nat} {x h:Operand} {b len cap n:Nat} {kd:IntKind} (hx:ev ρ x=.slice (some ⟨b,0,none⟩) len cap) (hh:ev ρ h=.int kd (n:Nat)) (hn:n≤cap) (k:aG P r K (put ρ d (.slice (some ⟨b,0,none⟩) n cap)) w):aG P (.cons ⟨d,.sliceSl size x none (some h),none⟩ r) K ρ w:=by
 refine cJ rfl ?_ k
 have e:(Addr.add ⟨b,0,none⟩ 0)=⟨b,0,none⟩:=rfl
 simp only [KOp.fix,hx,hh,Option.bind_some,Option.map_some]
 rw [if_pos (by omega)]
 by_cases hc:cap=0
 ·simp [hc]
 ·simp [hc,e]
end
end Go.K
namespace Go.Proofs.YtgloknkcfchnlabGreatDoor
open Go Go.K
attribute [local irreducible] aG aK aU KOp.wp K.Spec u32 leS vnS str aN aJ aP bH idT aV
set_option maxHeartbeats 4000000 in
theorem tL {U:List Nat} {B c:Nat} {M:List Nat} {ch:Ch} (w:World) (h:ChR U w B c M ch) (hn:∀k,k≤ch.bs.length→(bU ch.bs k).length≤80000) (hl:ch.bs.length≤100000) (ht:ch.top≤100000):
  K.Spec Tryz.prog F.chain_Chain_Disconnect [.pointer (some ⟨c,0,none⟩)] w fun r w'=>∃tv M',r=.tuple #[tv,.int .i64 (fH ch)]∧ChR U w' B c M' (eT ch)∧(∀y∈M',y∈M)∧Chg M w w'∧(fH ch=0→SlR txR (M'++U) w' tv (ch.bs.getD (ch.bs.length - 1) []))∧(fH ch≠0→tv=.slice none 0 0):=by
 have hlt:=h.lt
 obtain ⟨b,mb,lv,h1,h2,h3,hM,g1,g2,g3,g4,g5,g6,g8⟩:=id h
 have hcM:c∈M:=by rw [hM];simp
 have hbM:b∈M:=by rw [hM];simp
 have hmM:mb∈M:=by rw [hM];simp
 have hlM:∀y∈aH lv,y∈M:=fun y hy=>by rw [hM];simp [hy]
 have g7:=h2.ne
 have lc:=hlt c hcM
 have lb:=hlt b hbM
 have lm:=hlt mb hmM
 have r1:=Row.of_at h1
 have sl:=h3.sl (fun y hy hv=>by
  rcases List.mem_append.1 hy with hy|hy
  ·have:=g6 y hv;simp at hy;omega
  ·exact g8 y (hlM y hv) hy)
 have hll:(bQ ch.bs).length=ch.bs.length:=qU _
 refine oY rfl ?_
 unfold hG
 refine oy ?_
 by_cases q0:ch.bs.length=0
 ·have e0:fH ch=8:=by unfold fH;rw [if_pos q0]
  have e1:eT ch=ch:=by unfold eT;rw [if_pos (by rw [e0];decide)]
  rw [e0,e1]
  repeat (first|refine zG (d:=some 14) (E:=lkR) (l:=bQ ch.bs) rfl sl ?_|refine aD (d:=some 15) (.bool true) rfl (congrArg (fun b=>some (Value.bool b)) (dTr (by omega))) ?_|refine go1 ?_|refine zg λ_ _=>?_|refine zi λ_ _=>?_)
  exact aB rfl ⟨_,M,rfl,h,fun y hy=>hy,Chg.refl _ _,fun q=>absurd q (by decide),fun _=>rfl⟩
 ·by_cases q1:ch.bs.length+6≤ch.top
  ·have e0:fH ch=18:=by unfold fH;rw [if_neg q0,if_pos q1]
   have e1:eT ch=ch:=by unfold eT;rw [if_pos (by rw [e0];decide)]
   rw [e0,e1]
   repeat (first|refine zG (d:=some 14) (E:=lkR) (l:=bQ ch.bs) rfl sl ?_|refine aD (d:=some 15) (.bool false) rfl (congrArg (fun b=>some (Value.bool b)) (dFa (by omega))) ?_|refine zg (fun w2 x2=>?_)|refine zG (d:=some 21) (E:=lkR) (l:=bQ ch.bs) rfl (SlR.ext sl (by exact fx)) ?_|refine aD (d:=some 27) (.bool true) rfl (congrArg (fun b=>some (Value.bool b)) (dTr (by omega))) ?_|refine go1 ?_|refine zg λ_ _=>?_|refine zi λ_ _=>?_)
   exact aB rfl ⟨_,M,rfl,h.ext x2,fun y hy=>hy,Chg.mono x2 (by simp),fun q=>absurd q (by decide),fun _=>rfl⟩
  ·have e0:fH ch=0:=by unfold fH;rw [if_neg q0,if_neg q1]
   have e1:eT ch=⟨ch.bs.take (ch.bs.length - 1),ch.top⟩:=by unfold eT;rw [if_neg (by simp [e0])]
   obtain ⟨n,hnn⟩:∃n,ch.bs.length=n+1:=⟨ch.bs.length - 1,by omega⟩
   have en:ch.bs.length - 1=n:=by omega
   have hkl:n<(bQ ch.bs).length:=by omega
   have eS:aY ch.bs=bU ch.bs (n+1):=by unfold aY;rw [hnn]
   rw [eS] at h2
   have elk:(bQ ch.bs)[n]=lkN ch.bs n:=aQy (by omega)
   obtain ⟨bl,cap,elv,hcap⟩:∃bl cap,lv=.slice (some ⟨bl,0,none⟩) (bQ ch.bs).length cap∧(bQ ch.bs).length≤cap:=by
    rcases h3.form with ⟨-,h⟩|h
    ·rw [h] at hkl;simp at hkl
    ·exact h
   subst elv
   have hin:∀y∈ [bl]++ [c,b,mb],y∈M:=fun y hy=>by
    simp at hy
    rcases hy with rfl|rfl|rfl|rfl
    ·exact hlM _ (by simp [aH])
    ·exact hcM
    ·exact hbM
    ·exact hmM
   have g6':=g6 bl (by simp [aH])
   have lbl:=hlt bl (hin bl (by simp))
   repeat (first|refine zg (fun w3 x3=>?_)|refine zG (d:=some 14) (E:=lkR) (l:=bQ ch.bs) rfl sl ?_|refine aD (d:=some 15) (.bool false) rfl (congrArg (fun b=>some (Value.bool b)) (dFa (by omega))) ?_|refine zG (d:=some 21) (E:=lkR) (l:=bQ ch.bs) rfl (SlR.ext sl (by exact fx)) ?_|refine aD (d:=some 27) (.bool false) rfl (congrArg (fun b=>some (Value.bool b)) (dFa (by omega))) ?_|refine zG (d:=some 36) (E:=lkR) (l:=bQ ch.bs) rfl (SlR.ext sl (by exact fx)) ?_|refine aEc (d:=some 37) (n:=(bQ ch.bs).length) rfl (by omega) (by omega) ?_|(rw [show (bQ ch.bs).length - 1=n by omega];refine aTc (d:=some 38) (v:=.slice (some ⟨bl,0,none⟩) (bQ ch.bs).length cap) (E:=lkR) (M:= [c,b,mb]++U) (B:=B) (t:=T.chain_link) rfl rfl (n:=n) (l:=bQ ch.bs) (bD.ext h3 (by exact fx)) rfl hkl (fun ad cs r4 he=>?_);rw [elk] at he;obtain ⟨tv,iv,sv,mv,mp,rfl, -⟩:=id he)|refine zH (d:=some 4) (fun b4 w4 x4 a4 hb4=>?_)|refine go1 ?_|refine zg λ_ _=>?_|refine zi λ_ _=>?_)
   have x03:Ext w w3:=by exact fx
   have x04:Ext w w4:=by exact fx
   have s03:=x03.size
   have he':lkR.rel ([bl]++([c,b,mb]++U)) w3 [tv,iv,sv,mv,mp] (lkN ch.bs n):=he
   have ones:=lkR.one he'
   refine bG (b:=b4) (vs:= [tv,iv,sv,mv,mp]) rfl rfl rfl ones a4 rfl (fun w5 c5 a5=>?_)
   have c35:Chg [b4] w3 w5:=(Chg.trans x4 c5).mono (by simp)
   have c05:Chg [b4] w w5:=(Chg.trans x04 c5).mono (by simp)
   have he5:lkR.rel ([bl]++([c,b,mb]++U)) w5 [tv,iv,sv,mv,mp] (lkN ch.bs n):=lkR.step he' c35 (fun y hy=>.inr (by simp at hy;omega)) (fun y hy=>.inl hy)
   obtain ⟨tv',iv',sv',mv',mp',heq,z1,z2,z3,z4,z5⟩:=he5
   simp only [List.cons.injEq,and_true] at heq
   obtain ⟨rfl,rfl,rfl,rfl,rfl⟩:=heq
   have h15:=h1.chg c05 (by simp;omega)
   have S5:=h2.chg c05 (by simp;omega) (by simp;omega)
   have own5:=h3.step c05 (M':= [c,b,mb]++U) (fun y hy=>by
    simp at hy;subst hy
    exact ⟨by simp [aH];omega,.inr (by omega)⟩) (fun y hy=>.inl hy)
   have r15:=Row.of_at h15
   have r45:=Row.of_at a5
   have n1:=hn n (by omega)
   have n2:=hn (n+1) (by omega)
   have n3:=pT (bU ch.bs n) (bU ch.bs (n+1))
   have n4:=pT (bU ch.bs (n+1)) (bU ch.bs n)
   clear c35 c5 a4 x4 he he' r4 x03 x04 r1 sl h h1 h2 h3
   have sub:∀y∈ [b,mb],y∈ [bl]++([c,b,mb]++U):=fun y hy=>by simp at hy;rcases hy with rfl|rfl<;>simp
   refine aA9 ?_
   repeat (first|refine zg (fun w6 x6=>?_)|refine go1 ?_|refine zg λ_ _=>?_|refine zi λ_ _=>?_|refine aA9 ?_)
   refine zC (d:=some 46) rfl (yX (l:=bU ch.bs (n+1)) (spent:=(lkN ch.bs n).spent) (made:=(lkN ch.bs n).made) _ (S5.ext x6) ((z3.sub (fun y hy=>.inl (sub y hy))).ext x6) ((z4.sub (fun y hy=>.inl (sub y hy))).ext x6) (nTr n3 (by omega)) (nTr n4 (by omega)) (by rw [aHa])) ?_
   rw [aHa]
   rintro _ w7 ⟨rfl,S7,c7⟩
   have h17:=(h15.ext x6).chg c7 (by simp;omega)
   have a7:=(At.ext x6 a5).chg c7 (by simp;omega)
   have own7:=(own5.ext x6).step c7 (M':= [c,b,mb]++U) (fun y hy=>by
    simp at hy
    rcases hy with rfl|rfl
    ·exact ⟨by simp [aH];omega,.inl (by simp)⟩
    ·exact ⟨by simp [aH];omega,.inl (by simp)⟩) (fun y hy=>.inl hy)
   have z17:SlR txR ([bl]++([c,b,mb]++U)) w7 tv (lkN ch.bs n).txs:=(z1.ext x6).step c7 (fun y hy=>.inl (sub y hy)) (fun y hy=>.inl hy)
   have r17:=Row.of_at h17
   have r47:=Row.of_at a7
   have sl7:=own7.sl (fun y hy hv=>by
    simp [aH] at hv
    rcases List.mem_append.1 hy with hy|hy
    ·simp at hy;omega
    ·subst hv;exact g8 _ (hin _ (by simp)) hy)
   have hcl:=(bQ ch.bs).length
   have s7:w.heap.size≤w7.heap.size:=nTr c05.size (nTr x6.size c7.size)
   have c07:Chg [b4,b,mb] w w7:=(c05.trans (Chg.trans x6 c7)).mono (by simp)
   clear x6 c7 c05 a5 h15 r15 r45 own5 S5 z1 z3 z4
   repeat (first|refine zg (fun w8 x8=>?_)|refine zG (d:=some 59) (E:=lkR) (l:=bQ ch.bs) rfl (SlR.ext sl7 (by exact fx)) ?_|refine aEc (d:=some 60) (n:=(bQ ch.bs).length) rfl (by omega) (by omega) ?_|(rw [show (bQ ch.bs).length - 1=n by omega];refine aXf (d:=some 61) (b:=bl) (len:=(bQ ch.bs).length) (cap:=cap) (n:=n) rfl rfl (by omega) ?_)|refine go1 ?_|refine zg λ_ _=>?_|refine zi λ_ _=>?_|refine aA9 ?_)
   refine bB (b:=c) (o:=1) (cur:=aG5 b (.slice (some ⟨bl,0,none⟩) (bQ ch.bs).length cap) ch.top) rfl rfl rfl (h17.ext x8) (Nat.le_of_ble_eq_true rfl) (fun w9 c9 a9=>?_)
   have r49:=Row.of_at ((At.ext x8 a7).chg c9 (by simp;omega))
   repeat (first|refine go1 ?_|refine zg λ_ _=>?_|refine zi λ_ _=>?_|refine aA9 ?_)
   have own9:=((own7.ext x8).step c9 (M':= [c,b,mb]++U) (fun y hy=>by
    simp at hy;subst hy
    exact ⟨by simp [aH];omega,.inl (by simp)⟩) (fun y hy=>.inl hy)).cut (n:=n) (by omega)
   rw [e0,e1,en]
   refine aB rfl ⟨tv, [c,b,mb]++ [bl],rfl,⟨b,mb,.slice (some ⟨bl,0,none⟩) n cap,a9,?_,?_,rfl,g1,g2,g3,g4,g5,g6,fun y hy=>g8 y (hin y (by simp at hy ⊢;omega))⟩,fun y hy=>hin y (by simp at hy ⊢;omega),?_,fun _=>?_,fun q=>absurd rfl q⟩
   ·rw [aNd (by omega)]
    exact (S7.ext x8).chg c9 (by simp;omega) (by simp;omega)
   ·rw [aLk (by omega)]
    exact own9
   ·refine ((c07.trans x8).trans c9).mono fun y hy=>?_
    simp at hy
    rcases hy with rfl|rfl|rfl|rfl
    ·exact .inr (by omega)
    ·exact .inl hbM
    ·exact .inl hmM
    ·exact .inl hcM
   ·exact (z17.ext x8).step c9 (fun y hy=>.inl (by simp at hy;subst hy;simp)) (fun y hy=>.inl (by
     simp at hy ⊢
     rcases hy with h|h|h|h|h<;>simp [h]))
end Go.Proofs.YtgloknkcfchnlabGreatDoor
end
namespace Go.Proofs.YtgloknkcfchnlabGreatDoor
section
open Go Go.K
attribute [local irreducible] aG aK aU KOp.wp K.Spec u32 leS vnS str aN aJ aP bH idT aV
set_option maxHeartbeats 1000000 in
theorem wV {M:List Nat} {v:Value} {outs:List TOut} (h:Int) (w:World) (hh:0≤h∧h≤1000000) (ho:SlR cZ M w v outs) (hn:outs.length≤1000) (hM:∀y∈M,y<w.heap.size):K.Spec Tryz.prog F.tx_Grant [.int .i64 h,v] w fun r w'=>∃cs,r=.agg cs.toArray∧txO w.heap.size M w' cs (grT h outs)∧Ext w w':=by
 have ew:IntKind.u32.wrap h=h:=by show h%4294967296=h;omega
 refine aPd rfl ?_
 unfold aD3
 refine oy ?_
 repeat (first|refine zH (d:=some 4) (fun b4 w1 x1 a1 hb4=>?_)|(refine zC (d:=some 5) rfl (aB7 _) ?_;rintro _ w2 ⟨rfl,x2⟩)|refine bT (d:=some 6) (cs:=fX ⟨oA,4294967295, []⟩ (.slice none 0 0)) rfl ?_|refine zI (d:=some 7) (cs:=fX ⟨oA,4294967295, []⟩ (.slice none 0 0)) rfl (fun b7 w3 x3 a3 hb7=>?_)|(refine zC (d:=some 9) rfl (aCb (M:=b4::b7::M) _ (ho.step (show Ext w _ by exact fx) (by simp) (fun y hy=>by simp only [List.mem_cons] at hy;rcases hy with rfl|rfl|hy;exact .inr hb4;exact .inr (by have:=Ext.size (show Ext w w2 by exact fx);omega);exact .inl hy)) (by omega) (fun y hy=>by simp only [List.mem_cons] at hy;rcases hy with rfl|rfl|hy;exact nLt a1.lt (Ext.size (by exact fx));exact a3.lt;exact nLt (hM y hy) (Ext.size (show Ext w w3 by exact fx)))) ?_;rintro ov w4 ⟨oo,x4⟩;obtain ⟨q1,q2,eov⟩:∃base cap,ov=.slice base outs.length cap:=(oo.sl (fun y hy hv=>by have:=oo.base y hv;simp only [List.mem_cons] at hy;rcases hy with rfl|rfl|hy;have:=a1.lt;have:=Ext.size (show Ext w1 w3 by exact fx);omega;have:=a3.lt;omega;have:=hM y hy;have:=Ext.size (show Ext w w3 by exact fx);omega)).form)|(rw [ew];refine bT (d:=some 12) (cs:=aT (grT h outs) (.slice (some ⟨b7,0,none⟩) 1 1) ov) (by rw [eov];rfl) ?_)|refine go1 ?_|refine zg λ_ _=>?_|refine zi λ_ _=>?_)
 have x04:Ext w w4:=by exact fx
 have s03:=Ext.size (show Ext w w3 by exact fx)
 have s02:=Ext.size (show Ext w w2 by exact fx)
 have l3:=a3.lt
 refine bA (w0:=w) (n:=4) (vs:=aT (grT h outs) (.slice (some ⟨b7,0,none⟩) 1 1) ov) x04 hb4 (At.ext x4 (At.ext x3 (At.ext x2 a1))) rfl rfl rfl rfl (by rw [eov];rfl) (fun w5 x5 c5 a5 r5=>?_)
 repeat (first|refine go1 ?_|refine zg λ_ _=>?_|refine zi λ_ _=>?_)
 have hb74:b7≠b4:=by have:=a1.lt;have:=x2.size;omega
 have oib:bD inR T.api_In w.heap.size M w5 (.slice (some ⟨b7,0,none⟩) 1 1) [⟨oA,4294967295, []⟩]:=
  ⟨[⟨fX ⟨oA,4294967295, []⟩ (.slice none 0 0),rfl,by intro v hv;simp [fX] at hv;rcases hv with rfl|rfl|rfl|rfl<;>rfl⟩],.inr ⟨b7,1, [],rfl,by omega,(a3.ext x4).chg c5 (by simp;omega),rfl⟩,.cons ⟨_,rfl,SlR.nil _ _,⟨by decide,by decide⟩,⟨by decide,by decide⟩⟩ .nil⟩
 have oov:bD cZ T.api_Out w.heap.size M w5 ov outs:=(oo.lower s03).step c5 (M':=M) (fun y hy=>by
  simp at hy;subst hy
  exact ⟨fun h=>by have:=oo.base _ h;have:=a1.lt;have:=Ext.size (show Ext w1 w3 by exact fx);omega,.inl (by simp)⟩) (fun y hy=>.inl (by simp [hy]))
 exact aB (aFx (bK r5 rfl rfl)) ⟨_,rfl,⟨_,_,rfl,oib,oov,(show jM 2 by unfold jM;omega),(show jM h by unfold jM;omega)⟩,x5⟩
end
section
open Go Go.K
attribute [local irreducible] aG aK aU KOp.wp K.Spec u32 leS vnS str aN cV bH idT aV aJ aO
theorem aRg {l:List En} (hg:CG l):∀e∈l,0≤e.2.v∧e.2.v≤2100000000000000:=fun e he=>by
 have h:=hg.fm e he
 simp only [cI,Bool.and_eq_true] at h
 exact (cX _).1 h.2
abbrev z32:ByteArray:=⟨#[0,0,0,0,0,0,0,0,0,0,0,0,0,0,0,0,0,0,0,0,0,0,0,0,0,0,0,0,0,0,0,0]⟩
abbrev tC (vi vo:Value) (lock:Int):List Value:= [.int .u32 2,vi,vo,.int .u32 lock]
set_option maxHeartbeats 8000000 in
theorem aCy {M:List Nat} {v:Value} {cs:List Value} {l:List En} {z:BSm} (h:Int) (w:World) (hv:SlE bE w v l) (hg:CG l) (hsc:SC l) (hz:pA.rel M w cs z) (hn:l.length≤100000) (hh:0≤h∧h≤1000000) (hM:∀b∈M,b<w.heap.size):
  K.Spec Tryz.prog F.kedgeref12_Make [v,.agg cs.toArray,.int .i64 h] w fun r w'=>∃cs' t,r=.agg cs'.toArray∧txO w.heap.size M w' cs' t∧MkOk t∧Ext w w':=by
 obtain ⟨fv,rfl,hfr,⟨hf1,hf2⟩,ho1,ho2⟩:=hz
 obtain ⟨q1,q2,efv⟩:=hfr.form
 have hval:=aRg hg
 have h32:IntKind.u32.wrap h=h:=by show h%4294967296=h;omega
 refine zY rfl ?_
 unfold oD
 refine oy ?_
 repeat (first|refine zD (d:=some 4) (cs:=mL z fv) rfl (by rw [efv];rfl) (fun b4 w1 x1 a4 (r4:Row w1 ⟨b4,0,none⟩ (mL z fv)) hb4=>?_)|refine zH (d:=some 6) (fun b6 w2 x2 a6 hb6=>?_)|refine bT (d:=some 17) (cs:=tC (.slice none 0 0) (.slice none 0 0) 0) rfl ?_|refine zE (d':=7) (fun _=>rfl) rfl rfl rfl (fun b7 w3 x3 a7 r7 hb7=>?_)|refine kT (a:=.seq (.reg false (.cons ⟨some 9,_,none⟩ _)) (.block 0 _)) (fun (p:Value × List TIn × Int) w'=>Ext w w'∧w3.heap.size≤w'.heap.size∧At w' b4 (.cells (mL z fv).toArray T.kedgeref12_Small (0,0))∧At w' b6 (.cells zTx.toArray T.api_Tx (0,0))∧At w' b7 (.cells (tC p.1 (.slice none 0 0) 0).toArray T.api_Tx (0,0))∧bD inR T.api_In w3.heap.size (b6::b7::M) w' p.1 p.2.1∧p.2.1.length≤4∧(∀x∈p.2.1,x.wit.length≤1)∧0≤p.2.2∧p.2.2≤8400000000000000) (fun p=> [(2,.int .i64 h),(4,.pointer (some ⟨b4,0,none⟩)),(6,.pointer (some ⟨b6,0,none⟩)),(7,.pointer (some ⟨b7,0,none⟩)),(8,.int .i64 p.2.2)]) ?_ ?_|refine go1 ?_|refine zg λ_ _=>?_|refine zi λ_ _=>?_)
 ·have l4:=a4.lt
  have l6:=a6.lt
  have l7:=a7.lt
  have s1:=x1.size
  have s2:=x2.size
  have s3:=x3.size
  obtain ⟨M1,hM1⟩:∃M1,M1=b6::b7::M:=⟨_,rfl⟩
  have hM1b:∀b∈M1,b<w3.heap.size:=by
   intro y hy;rw [hM1] at hy;simp only [List.mem_cons] at hy
   rcases hy with rfl|rfl|hy
   ·omega
   ·omega
   ·have:=hM y hy;omega
  rw [←hM1]
  have m6:b6∈M1:=by rw [hM1];simp
  have m7:b7∈M1:=by rw [hM1];simp
  have a4':At w3 b4 (.cells (mL z fv).toArray T.kedgeref12_Small (0,0)):=At.ext x3 (At.ext x2 a4)
  have a6':At w3 b6 (.cells zTx.toArray T.api_Tx (0,0)):=At.ext x3 a6
  have a7':At w3 b7 (.cells (tC (.slice none 0 0) (.slice none 0 0) 0).toArray T.api_Tx (0,0)):=a7
  have x03:Ext w w3:=(x1.trans x2).trans x3
  clear x1 x2 x3 a4 a6 a7 r4 r7
  repeat (first|(refine aL (fun (p:Nat × Value × List TIn × Int) w'=>Ext w w'∧w3.heap.size≤w'.heap.size∧At w' b4 (.cells (mL z fv).toArray T.kedgeref12_Small (0,0))∧At w' b6 (.cells zTx.toArray T.api_Tx (0,0))∧At w' b7 (.cells (tC p.2.1 (.slice none 0 0) 0).toArray T.api_Tx (0,0))∧bD inR T.api_In w3.heap.size M1 w' p.2.1 p.2.2.1∧p.2.2.1.length≤p.1∧(∀x∈p.2.2.1,x.wit.length≤1)∧(0≤p.2.2.2∧p.2.2.2≤p.1*2100000000000000)∧p.1≤z.spends.length∧p.1≤4) (fun p=> [(0,v),(2,.int .i64 h),(4,.pointer (some ⟨b4,0,none⟩)),(6,.pointer (some ⟨b6,0,none⟩)),(7,.pointer (some ⟨b7,0,none⟩)),(8,.int .i64 p.2.2.2),(9,.int .i64 (p.1:Nat))]) (fun p=>4 - p.1) (0,.slice none 0 0, [],0) ⟨rfl,rfl,rfl,rfl,rfl,rfl,rfl,trivial⟩ ⟨x03,Nat.le_refl _,a4',a6',a7',bD.nil _ _ _ _,by simp,by simp,by simp,by simp,by simp⟩ ?_;rintro ⟨i,vi,ins,s⟩ ρ w6 ⟨x6,s36,e4,e6,e7,o1,hil,hwt,hs,hi1,hi2⟩;simp only at e7 o1 hil hwt hs hi1 hi2;dsimp only;have e4r:=Row.of_at e4)|refine go1 ?_|refine zg λ_ _=>?_|refine zi λ_ _=>?_)
  refine zG (d:=some 21) (E:=u8R) (M:=M) (l:=z.spends) rfl (hfr.ext x6) ?_
  by_cases hc1:i<z.spends.length
  ·by_cases hc2:i<4
   ·repeat (first|refine aD (d:=some 22) (.bool true) rfl (congrArg (fun b=>some (Value.bool b)) (dTr (by omega))) ?_|refine aD (d:=some 25) (.bool true) rfl (congrArg (fun b=>some (Value.bool b)) (dTr (by omega))) ?_|refine go1 ?_|refine zg λ_ _=>?_|refine zi λ_ _=>?_)
    by_cases hl0:l.length=0
    ·repeat (first|refine bP (d:=some 30) rfl (hv.ext x6) ?_|refine aD (d:=some 31) (.bool true) rfl (congrArg (fun b=>some (Value.bool b)) (dTr (by omega))) ?_|refine go1 ?_|refine zg λ_ _=>?_|refine zi λ_ _=>?_)
     exact ⟨(i+1,vi,ins,s),⟨rfl,rfl,rfl,rfl,rfl,rfl,rfl,trivial⟩,⟨x6,s36,e4,e6,e7,o1,by simp only;omega,hwt,by simp only;omega,by simp only;omega,by simp only;omega⟩,by simp only;omega⟩
    ·have hfr6:=hfr.ext x6
     have hv6:=hv.ext x6
     have x06':Unit→Ext w w6:=fun _=>x6
     clear x6
     repeat (first|refine bP (d:=some 30) rfl hv6 ?_|refine aD (d:=some 31) (.bool false) rfl (congrArg (fun b=>some (Value.bool b)) (dFa (by omega))) ?_|(refine aM (d:=some 36) (E:=u8R) (M:=M) rfl rfl (n:=i) (l:=z.spends) hfr6 rfl hc1 (fun ad cs r8 he=>?_);subst he)|refine aD (d:=some 38) (.int .i64 (z.spends[i].toNat:Nat)) rfl (congrArg (fun n=>some (Value.int .i64 n)) (wrap_u8 z.spends[i])) ?_|refine bP (d:=some 40) rfl hv6 ?_|refine aJj (d:=some 41) (n:=z.spends[i].toNat) (m:=l.length) rfl rfl (by omega) ?_|(have h9:=Nat.mod_lt z.spends[i].toNat (show 0<l.length by omega);generalize z.spends[i].toNat%l.length=n9 at h9 ⊢;refine aQ (d:=some 42) (E:=bE) rfl rfl (n:=n9) (l:=l) hv6 rfl h9 (fun ad9 r9=>?_);obtain ⟨en,hen⟩:∃en,en=l[n9]:=⟨_,rfl⟩;have hem:en∈l:=(by rw [hen];exact gMe h9);rw [←hen] at r9)|refine zE (d':=10) (fun _=>rfl) rfl rfl rfl (fun b10 w7 x7 a10 (r10:Row w7 ⟨b10,0,none⟩ (bE.f en)) hb10=>?_)|refine cM (d:=some 48) rfl rfl (aFr z.delay.toNat 4 (by decide)) ?_|refine aD (d:=some 49) (.int .u32 ((z.delay.toNat%4:Nat):Int)) rfl (congrArg (fun n=>some (Value.int .u32 n)) (by rw [wrap32];omega)) ?_|refine cM (d:=some 52) rfl rfl (aX8 z.tag 3 (by decide)) ?_|refine zI (d:=some 53) rfl (fun b53 w8 x8 a53 hb53=>?_)|refine vG (d:=some 54) (l:= [0,UInt8.ofNat (z.tag.toNat%3),0]) rfl (SlE.new (E:=u8E) a53 rfl (Nat.le_refl _)) ?_|refine zI (d:=some 55) (cs:= [.string (str [0,UInt8.ofNat (z.tag.toNat%3),0])]) rfl (fun b55 w9 x9 a55 hb55=>?_)|refine bT (d:=some 56) (cs:=fX ⟨en.1,((z.delay.toNat%4:Nat):Int), []⟩ (.slice (some ⟨b55,0,none⟩) 1 1)) rfl ?_|(refine zE (d':=11) (fun _=>rfl) rfl rfl rfl (fun b11 w10 x10 a11 (r11:Row w10 ⟨b11,0,none⟩ (fX ⟨en.1,((z.delay.toNat%4:Nat):Int), []⟩ (.slice (some ⟨b55,0,none⟩) 1 1))) hb11=>?_))|(refine kT (a:=.seq (.reg false (.cons ⟨some 57,_,none⟩ _)) _) (fun (q:Int) w'=>Ext w6 w'∧Ext w7 w'∧At w' b11 (.cells (fX ⟨en.1,q, []⟩ (.slice (some ⟨b55,0,none⟩) 1 1)).toArray T.api_In (0,0))∧jM q∧SlE iX w' (.slice (some ⟨b55,0,none⟩) 1 1) [str [0,UInt8.ofNat (z.tag.toNat%3),0]]) (fun _=> [(0,v),(2,.int .i64 h),(4,.pointer (some ⟨b4,0,none⟩)),(6,.pointer (some ⟨b6,0,none⟩)),(7,.pointer (some ⟨b7,0,none⟩)),(8,.int .i64 s),(9,.int .i64 i),(10,.pointer (some ⟨b10,0,none⟩)),(11,.pointer (some ⟨b11,0,none⟩))]) ?_ ?_)|refine go1 ?_|refine zg λ_ _=>?_|refine zi λ_ _=>?_)
     ·have x610:Unit→Ext w6 w10:=fun _=>(x7.trans x8).trans (x9.trans x10)
      have x710:Unit→Ext w7 w10:=fun _=>x8.trans (x9.trans x10)
      have hb116:w6.heap.size≤b11:=nTr (x7.trans (x8.trans x9)).size hb11
      have hb117:w7.heap.size≤b11:=nTr (x8.trans x9).size hb11
      have l55:=a55.lt
      have sl10:SlE iX w10 (.slice (some ⟨b55,0,none⟩) 1 1) [str [0,UInt8.ofNat (z.tag.toNat%3),0]]:=SlE.new (E:=iX) (At.ext x10 a55) rfl (Nat.le_refl _)
      have r410:Row w10 ⟨b4,0,none⟩ (mL z fv):=Row.ext (x610 ()) e4r
      have a11':At w10 b11 (.cells (fX ⟨en.1,((z.delay.toNat%4:Nat):Int), []⟩ (.slice (some ⟨b55,0,none⟩) 1 1)).toArray T.api_In (0,0)):=a11
      clear x7 x8 x9 x10 a10 r10 a53 a55
      repeat' (first|refine cM (d:=some 59) rfl rfl (aFr z.delay.toNat 4 (by decide)) ?_|refine bB (b:=b11) (o:=2) (cur:=fX ⟨en.1,((z.delay.toNat%4:Nat):Int), []⟩ (.slice (some ⟨b55,0,none⟩) 1 1)) rfl rfl rfl a11' (Nat.le_of_ble_eq_true rfl) (fun w11 c11 a12=>?_)|refine go1 ?_|refine zg λ_ _=>?_|refine zi λ_ _=>?_|refine zL rfl (fun h=>?_) (fun h=>?_))
      ·exact ⟨4294967293,⟨rfl,rfl,rfl,rfl,rfl,rfl,rfl,rfl,rfl,trivial⟩,(Ext.chg (x610 ()) c11).mono (by intro y hy;simp at hy;right;omega),(Ext.chg (x710 ()) c11).mono (by intro y hy;simp at hy;right;omega),a12,⟨by decide,by decide⟩,sl10.chg c11 (fun a m c e hm=>by
        simp only [Value.slice.injEq,Option.some.injEq] at e
        simp only [List.mem_singleton] at hm
        have:=e.1
        rw [←this] at hm
        simp only at hm
        omega)⟩
      ·exact ⟨((z.delay.toNat%4:Nat):Int),⟨rfl,rfl,rfl,rfl,rfl,rfl,rfl,rfl,rfl,trivial⟩,x610 (),x710 (),a11',by unfold jM;omega,sl10⟩
     ·rintro q ρ w11 ⟨x611,x711,a12,hq,hw12⟩
      have r12:=Row.of_at a12
      have r1010:=Row.ext x711 r10
      have e7r:=Row.ext x611 (Row.of_at e7)
      have hpi:=(hsc en hem).2
      have hve:=hval en hem
      have o12:=o1.ext x611
      have s67:=x7.size
      have s78:=x8.size
      have s611:=x611.size
      have hsl:SlR qS (aH vi++M1) w11 (.slice (some ⟨b55,0,none⟩) 1 1) [str [0,UInt8.ofNat (z.tag.toNat%3),0]]:=SlE.toR hw12 (fun b hb hm=>by
       simp [aH] at hb;subst hb
       rcases List.mem_append.1 hm with h2|h2
       ·have:=o1.lt _ h2;omega
       ·have:=hM1b _ h2;omega)
      clear x8 x9 x10 a10 r10 a53 a55 a11 r11 x711
      repeat (first|refine zI (d:=some 65) (cs:=fX ⟨en.1,q, []⟩ (.slice (some ⟨b55,0,none⟩) 1 1)) rfl (fun b65 w13 x13 a13 hb65=>?_)|refine fM (d:=some 66) (E:=inR) (M:=M1) (v:=vi) (cs:=fX ⟨en.1,q, []⟩ (.slice (some ⟨b55,0,none⟩) 1 1)) (a:=⟨en.1,q, [str [0,UInt8.ofNat (z.tag.toNat%3),0]]⟩) rfl rfl (o12.ext x13) (by have:=x13.size;omega) rfl rfl a13 ⟨_,rfl,hsl.ext x13,hpi,hq⟩ (by omega) (fun v14 w14 o14 c14 hb14=>?_)|refine go1 ?_|refine zg λ_ _=>?_|refine zi λ_ _=>?_)
      have g1:=o1.base
      have l1:=o1.lt
      have h4v:b4∉aH vi:=fun h=>by have:=g1 _ h;omega
      have h6v:b6∉aH vi:=fun h=>by have:=g1 _ h;omega
      have h7v:b7∉aH vi:=fun h=>by have:=g1 _ h;omega
      have h10v:b10∉aH vi:=fun h=>by have:=l1 _ h;omega
      have x613:=x611.trans x13
      have e4':=At.chg c14 (e4.ext x613) h4v
      have e6':=At.chg c14 (e6.ext x613) h6v
      have e7':=At.chg c14 (e7.ext x613) h7v
      have r1014:=Row.chg c14 (Row.ext x13 r1010) h10v
      have g14:=o14.base
      repeat (first|refine go1 ?_|refine zg λ_ _=>?_|refine zi λ_ _=>?_)
      refine bB (d:=none) (b:=b7) (o:=1) (cur:=tC vi (.slice none 0 0) 0) rfl rfl o14.one e7' (Nat.le_of_ble_eq_true rfl) (fun w15 c15 a15=>?_)
      have h7w:b7∉aH v14:=fun h=>by have:=g14 _ h;omega
      have o15:=o14.step c15 (M':=M1) (by intro y hy;simp at hy;subst hy;exact ⟨h7w,.inl m7⟩) (fun _ h=>.inl h)
      have s14:=c14.size
      have s15:=c15.size
      have s013:=x613.size
      have r1015:=Row.chg c15 r1014 (by simp;omega)
      have x015:Ext w w15:=(Ext.chg ((x06' ()).trans x613) (c14.trans c15)).mono (by
       intro y hy
       rcases List.mem_append.1 hy with h|h
       ·have:=g1 _ h;right;omega
       ·simp at h;right;omega)
      have e415:=At.chg c15 e4' (by simp;omega)
      have e615:=At.chg c15 e6' (by simp;omega)
      clear x611 x13 x613 x7 c14 c15
      repeat (first|refine go1 ?_|refine zg λ_ _=>?_|refine zi λ_ _=>?_)
      exact ⟨(i+1,v14,ins++ [⟨en.1,q, [str [0,UInt8.ofNat (z.tag.toNat%3),0]]⟩],s+en.2.v),⟨rfl,rfl,rfl,rfl,rfl,rfl,rfl,trivial⟩,⟨x015,by omega,e415,e615,a15,o15,by simp only [List.length_append,List.length_singleton];omega,fun x hx=>by
       rcases List.mem_append.1 hx with hx|hx
       ·exact hwt x hx
       ·simp at hx;subst hx;exact Nat.le_refl 1,by simp only;omega,by simp only;omega,by simp only;omega⟩,by simp only;omega⟩
   ·repeat (first|refine aD (d:=some 22) (.bool true) rfl (congrArg (fun b=>some (Value.bool b)) (dTr (by omega))) ?_|refine aD (d:=some 25) (.bool false) rfl (congrArg (fun b=>some (Value.bool b)) (dFa (by omega))) ?_|refine go1 ?_|refine zg λ_ _=>?_|refine zi λ_ _=>?_)
    exact ⟨(vi,ins,s),⟨rfl,rfl,rfl,rfl,rfl,trivial⟩,x6,s36,e4,e6,e7,o1,by simp only;omega,hwt,by simp only;omega,by simp only;omega⟩
  ·repeat (first|refine aD (d:=some 22) (.bool false) rfl (congrArg (fun b=>some (Value.bool b)) (dFa (by omega))) ?_|refine go1 ?_|refine zg λ_ _=>?_|refine zi λ_ _=>?_)
   exact ⟨(vi,ins,s),⟨rfl,rfl,rfl,rfl,rfl,trivial⟩,x6,s36,e4,e6,e7,o1,by simp only;omega,hwt,by simp only;omega,by simp only;omega⟩
 ·rintro ⟨vi,ins,s⟩ ρ w5 ⟨x5,s35,e4,e6,e7,o1,hil,hwt,hs1,hs2⟩
  simp only at e7 o1 hil hwt hs1 hs2
  dsimp only
  have l4:=a4.lt
  have l6:=a6.lt
  have l7:=a7.lt
  have s1:=x1.size
  have s2:=x2.size
  have s3:=x3.size
  obtain ⟨M1,hM1⟩:∃M1,M1=b6::b7::M:=⟨_,rfl⟩
  have hM1b:∀b∈M1,b<w3.heap.size:=by
   intro y hy;rw [hM1] at hy;simp only [List.mem_cons] at hy
   rcases hy with rfl|rfl|hy
   ·omega
   ·omega
   ·have:=hM y hy;omega
  rw [←hM1] at o1
  have m6:b6∈M1:=by rw [hM1];simp
  have m7:b7∈M1:=by rw [hM1];simp
  have mM:∀b∈M,b∈M1:=by intro y hy;rw [hM1];simp [hy]
  have s03:w.heap.size≤w3.heap.size:=by omega
  clear x1 x2 x3 a4 a6 a7 r4 r7
  have x5':Unit→Ext w w5:=fun _=>x5
  have e4r:=Row.of_at e4
  have e7r:=Row.of_at e7
  have sl1:=o1.sl (fun b hb hv=>by have:=hM1b b hb;have:=o1.base b hv;omega)
  clear x5
  refine kT (a:=.seq (.reg false (.cons ⟨some 74,_,none⟩ _)) _) (fun (p:Value × List TIn × Int × Int) w'=>Ext w w'∧w3.heap.size≤w'.heap.size∧At w' b4 (.cells (mL z fv).toArray T.kedgeref12_Small (0,0))∧At w' b6 (.cells zTx.toArray T.api_Tx (0,0))∧At w' b7 (.cells (tC p.1 (.slice none 0 0) p.2.2.2).toArray T.api_Tx (0,0))∧bD inR T.api_In w3.heap.size M1 w' p.1 p.2.1∧p.2.1.length≤4∧(∀x∈p.2.1,x.wit.length≤1)∧(0≤p.2.2.1∧p.2.2.1≤8400000000000000)∧0≤p.2.2.2∧p.2.2.2<4294967296) (fun p=> [(4,.pointer (some ⟨b4,0,none⟩)),(6,.pointer (some ⟨b6,0,none⟩)),(7,.pointer (some ⟨b7,0,none⟩)),(8,.int .i64 p.2.2.1)]) ?_ ?_
  ·cases hg2:z.grant with
   |true=>
    repeat (first|refine aD (d:=some 76) (.bool true) rfl (congrArg (fun b=>some (Value.bool b)) hg2) ?_|refine go1 ?_|refine zg λ_ _=>?_|refine zi λ_ _=>?_)
    repeat (first|refine zI (d:=some 84) (cs:=fX ⟨⟨z32,4294967295⟩,4294967295, []⟩ (.slice none 0 0)) rfl (fun b84 w8 x8 a84 hb84=>?_)|refine go1 ?_|refine zg λ_ _=>?_|refine zi λ_ _=>?_)
    have s58:=x8.size
    have l84:=a84.lt
    refine bB (b:=b7) (o:=1) (cur:=tC vi (.slice none 0 0) 0) rfl rfl rfl (e7.ext x8) (Nat.le_of_ble_eq_true rfl) (fun w9 c9 a9=>?_)
    have a9:At w9 b7 (.cells (tC (.slice (some ⟨b84,0,none⟩) 1 1) (.slice none 0 0) 0).toArray T.api_Tx (0,0)):=a9
    repeat (first|refine go1 ?_|refine zg λ_ _=>?_|refine zi λ_ _=>?_)
    refine bB (b:=b7) (o:=3) (cur:=tC (.slice (some ⟨b84,0,none⟩) 1 1) (.slice none 0 0) 0) rfl rfl rfl a9 (Nat.le_of_ble_eq_true rfl) (fun w10 c10 a10=>?_)
    have a10:At w10 b7 (.cells (tC (.slice (some ⟨b84,0,none⟩) 1 1) (.slice none 0 0) (IntKind.u32.wrap h)).toArray T.api_Tx (0,0)):=a10
    rw [h32] at a10
    have cc:Chg [b7] w8 w10:=(c9.trans c10).mono (by simp)
    have e410:=(e4.ext x8).chg cc (by simp;omega)
    have e610:=(e6.ext x8).chg cc (by simp;omega)
    have r410:=Row.of_at e410
    have x10:Ext w w10:=(Ext.chg ((x5' ()).trans x8) cc).mono (fun y hy=>.inr (by simp at hy;omega))
    have a84':=a84.chg cc (by simp;omega)
    have oib:bD inR T.api_In w3.heap.size M1 w10 (.slice (some ⟨b84,0,none⟩) 1 1) [⟨⟨z32,4294967295⟩,4294967295, []⟩]:=
     ⟨[⟨fX ⟨⟨z32,4294967295⟩,4294967295, []⟩ (.slice none 0 0),rfl,by intro v hv;simp [fX] at hv;rcases hv with rfl|rfl|rfl|rfl<;>rfl⟩],.inr ⟨b84,1, [],rfl,by omega,a84',rfl⟩,.cons ⟨_,rfl,SlR.nil _ _,⟨by decide,by decide⟩,⟨by decide,by decide⟩⟩ .nil⟩
    have s810:=cc.size
    clear x8 c9 c10 cc
    repeat (first|refine aD (d:=some 91) (.int .i64 z.fee) rfl (congrArg (fun n=>some (Value.int .i64 n)) (IntWalk.i64_in _ (by omega))) ?_|refine go1 ?_|refine zg λ_ _=>?_|refine zi λ_ _=>?_)
    exact ⟨(.slice (some ⟨b84,0,none⟩) 1 1, [⟨⟨z32,4294967295⟩,4294967295, []⟩],100000+z.fee,h),⟨rfl,rfl,rfl,rfl,trivial⟩,x10,by omega,e410,e610,a10,oib,by simp,by simp,by simp only;omega,by simp only;omega⟩
   |false=>
    repeat (first|refine aD (d:=some 76) (.bool false) rfl (congrArg (fun b=>some (Value.bool b)) hg2) ?_|refine zG (d:=some 79) (E:=inR) (M:=M1) (l:=ins) rfl sl1 ?_|refine go1 ?_|refine zg λ_ _=>?_|refine zi λ_ _=>?_)
    refine zL rfl (fun h0=>?_) (fun h0=>?_)
    ·repeat (first|refine zI (d:=some 84) (cs:=fX ⟨⟨z32,4294967295⟩,4294967295, []⟩ (.slice none 0 0)) rfl (fun b84 w8 x8 a84 hb84=>?_)|refine go1 ?_|refine zg λ_ _=>?_|refine zi λ_ _=>?_)
     have s58:=x8.size
     have l84:=a84.lt
     refine bB (b:=b7) (o:=1) (cur:=tC vi (.slice none 0 0) 0) rfl rfl rfl (e7.ext x8) (Nat.le_of_ble_eq_true rfl) (fun w9 c9 a9=>?_)
     have a9:At w9 b7 (.cells (tC (.slice (some ⟨b84,0,none⟩) 1 1) (.slice none 0 0) 0).toArray T.api_Tx (0,0)):=a9
     repeat (first|refine go1 ?_|refine zg λ_ _=>?_|refine zi λ_ _=>?_)
     refine bB (b:=b7) (o:=3) (cur:=tC (.slice (some ⟨b84,0,none⟩) 1 1) (.slice none 0 0) 0) rfl rfl rfl a9 (Nat.le_of_ble_eq_true rfl) (fun w10 c10 a10=>?_)
     have a10:At w10 b7 (.cells (tC (.slice (some ⟨b84,0,none⟩) 1 1) (.slice none 0 0) (IntKind.u32.wrap h)).toArray T.api_Tx (0,0)):=a10
     rw [h32] at a10
     have cc:Chg [b7] w8 w10:=(c9.trans c10).mono (by simp)
     have e410:=(e4.ext x8).chg cc (by simp;omega)
     have e610:=(e6.ext x8).chg cc (by simp;omega)
     have r410:=Row.of_at e410
     have x10:Ext w w10:=(Ext.chg ((x5' ()).trans x8) cc).mono (fun y hy=>.inr (by simp at hy;omega))
     have a84':=a84.chg cc (by simp;omega)
     have oib:bD inR T.api_In w3.heap.size M1 w10 (.slice (some ⟨b84,0,none⟩) 1 1) [⟨⟨z32,4294967295⟩,4294967295, []⟩]:=
      ⟨[⟨fX ⟨⟨z32,4294967295⟩,4294967295, []⟩ (.slice none 0 0),rfl,by intro v hv;simp [fX] at hv;rcases hv with rfl|rfl|rfl|rfl<;>rfl⟩],.inr ⟨b84,1, [],rfl,by omega,a84',rfl⟩,.cons ⟨_,rfl,SlR.nil _ _,⟨by decide,by decide⟩,⟨by decide,by decide⟩⟩ .nil⟩
     have s810:=cc.size
     clear x8 c9 c10 cc
     repeat (first|refine aD (d:=some 91) (.int .i64 z.fee) rfl (congrArg (fun n=>some (Value.int .i64 n)) (IntWalk.i64_in _ (by omega))) ?_|refine go1 ?_|refine zg λ_ _=>?_|refine zi λ_ _=>?_)
     exact ⟨(.slice (some ⟨b84,0,none⟩) 1 1, [⟨⟨z32,4294967295⟩,4294967295, []⟩],100000+z.fee,h),⟨rfl,rfl,rfl,rfl,trivial⟩,x10,by omega,e410,e610,a10,oib,by simp,by simp,by simp only;omega,by simp only;omega⟩
    ·repeat (first|refine go1 ?_|refine zg λ_ _=>?_|refine zi λ_ _=>?_)
     exact ⟨(vi,ins,s,0),⟨rfl,rfl,rfl,rfl,trivial⟩,x5' (),s35,e4,e6,e7,o1,hil,hwt,⟨hs1,hs2⟩,by simp only;omega⟩
  ·clear ρ w5 x5' e4r e7r sl1 e4 e6 e7 o1 s35
   rintro ⟨vi,ins,s,lock⟩ ρ w5 ⟨x5,s35,e4,e6,e7,o1,hil,hwt,⟨hs1,hs2⟩,hk1,hk2⟩
   simp only at e7 o1 hil hwt hs1 hs2 hk1 hk2
   dsimp only
   have x5':Unit→Ext w w5:=fun _=>x5
   have e4r:=Row.of_at e4
   have e7r:=Row.of_at e7
   clear x5
   refine kT (a:=.seq (.reg false (.cons ⟨some 93,_,none⟩ _)) _) (fun (lock:Int) w'=>Ext w w'∧w5.heap.size≤w'.heap.size∧At w' b4 (.cells (mL z fv).toArray T.kedgeref12_Small (0,0))∧At w' b6 (.cells zTx.toArray T.api_Tx (0,0))∧At w' b7 (.cells (tC vi (.slice none 0 0) lock).toArray T.api_Tx (0,0))∧bD inR T.api_In w3.heap.size M1 w' vi ins∧0≤lock∧lock<4294967296) (fun p=> [(4,.pointer (some ⟨b4,0,none⟩)),(6,.pointer (some ⟨b6,0,none⟩)),(7,.pointer (some ⟨b7,0,none⟩)),(8,.int .i64 s)]) ?_ ?_
   ·have h7v:b7∉aH vi:=fun h=>by have:=o1.base _ h;omega
    repeat' (first|refine bB (b:=b7) (o:=3) (cur:=tC vi (.slice none 0 0) lock) rfl rfl rfl e7 (Nat.le_of_ble_eq_true rfl) (fun w10 c10 a10=>?_)|refine go1 ?_|refine zg λ_ _=>?_|refine zi λ_ _=>?_|refine zM rfl (fun h=>?_) (fun h=>?_))
    ·exact ⟨IntKind.u32.wrap (lock+1),⟨rfl,rfl,rfl,rfl,trivial⟩,(Ext.chg (x5' ()) c10).mono (fun y hy=>.inr (by simp at hy;omega)),c10.size,e4.chg c10 (by simp;omega),e6.chg c10 (by simp;omega),a10,o1.step c10 (fun y hy=>by simp at hy;subst hy;exact ⟨h7v,.inl m7⟩) (fun y hy=>.inl hy),by show 0≤(lock+1)%4294967296;omega,by show (lock+1)%4294967296<_;omega⟩
    ·exact ⟨lock,⟨rfl,rfl,rfl,rfl,trivial⟩,x5' (),Nat.le_refl _,e4,e6,e7,o1,hk1,hk2⟩
   ·clear ρ x5' e4r e7r e4 e6 e7 o1
    rintro lock' ρ w6 ⟨x6,s56,e4,e6,e7,o1,hj1,hj2⟩
    have e4r:=Row.of_at e4
    have e7r:=Row.of_at e7
    have hI0:=o1.base
    have hI1:=o1.lt
    have hp8:z.pays.toNat%3<3:=Nat.mod_lt _ (by decide)
    obtain ⟨n,hn0⟩:∃n,n=1+z.pays.toNat%3:=⟨_,rfl⟩
    have x6':Unit→Ext w w6:=fun _=>x6
    clear x6
    repeat (first|refine cM (d:=some 101) rfl rfl (aFr z.pays.toNat 3 (by decide)) ?_|refine aD (d:=some 102) (.int .i64 ((z.pays.toNat%3:Nat):Int)) rfl (congrArg (fun n=>some (Value.int .i64 n)) (mW (by omega))) ?_|(refine aD (d:=some 103) (.int .i64 ((1+z.pays.toNat%3:Nat):Int)) rfl (congrArg (fun n=>some (Value.int .i64 n)) (IntWalk.i64_in _ (by omega))) ?_;rw [←hn0])|refine aD (d:=some 107) (.int .i64 z.fee) rfl (congrArg (fun n=>some (Value.int .i64 n)) (IntWalk.i64_in _ (by omega))) ?_|(refine aL (fun (p:Nat × Int × Value × List TOut) w'=>Ext w w'∧w6.heap.size≤w'.heap.size∧At w' b4 (.cells (mL z fv).toArray T.kedgeref12_Small (0,0))∧p.1≤n∧p.2.2.2.length=p.1∧(∀o∈p.2.2.2,0≤o.v∧o.v≤8400000000000000)∧(-100000≤p.2.1∧p.2.1≤8400000000000000)∧At w' b6 (.cells zTx.toArray T.api_Tx (0,0))∧At w' b7 (.cells (tC vi p.2.2.1 lock').toArray T.api_Tx (0,0))∧bD inR T.api_In w3.heap.size (aH p.2.2.1++M1) w' vi ins∧bD cZ T.api_Out w6.heap.size (aH vi++M1) w' p.2.2.1 p.2.2.2) (fun p=> [(4,.pointer (some ⟨b4,0,none⟩)),(6,.pointer (some ⟨b6,0,none⟩)),(7,.pointer (some ⟨b7,0,none⟩)),(12,.int .i64 (n:Nat)),(13,.int .i64 p.2.1),(14,.int .i64 p.1)]) (fun p=>n - p.1) (0,s - z.fee,.slice none 0 0, []) ⟨rfl,rfl,rfl,rfl,rfl,rfl,trivial⟩ ⟨x6' (),Nat.le_refl _,e4,by simp,rfl,by simp,⟨by show -100000≤s - z.fee;omega,by show s - z.fee≤_;omega⟩,e6,e7,o1,bD.nil _ _ _ _⟩ ?_)|refine go1 ?_|refine zg λ_ _=>?_|refine zi λ_ _=>?_)
    clear e4 e4r e6 e7 e7r o1 ρ
    rintro ⟨k,left,vo,O⟩ ρ7 w7 ⟨x7,s67,t3,hk3,hO,hOv,hlb,t4,t5,u1,u2⟩
    simp only at hk3 hO hOv hlb t5 u1 u2
    dsimp only
    have t3r:=Row.of_at t3
    have t5r:Row w7 ⟨b7,0,none⟩ (tC vi vo lock'):=Row.of_at t5
    have x7':Unit→Ext w w7:=fun _=>x7
    clear x7
    repeat' (first|refine aD (d:=some 117) (.int .i64 ((n - k:Nat):Int)) rfl (congrArg (fun n=>some (Value.int .i64 n)) (by rw [IntWalk.i64_in _ (by omega)];omega)) ?_|refine cM (d:=some 118) rfl rfl (aZ0 left (n - k) (by omega) (by omega)) ?_|(have hcb:=aPe (left:=left) (k:=n - k) (by omega) hlb.1 hlb.2 (by decide);refine kT (a:=.seq (.reg false (.cons ⟨some 119,_,none⟩ _)) _) (fun (_:Unit) w'=>w'=w7) (fun _=> [(4,.pointer (some ⟨b4,0,none⟩)),(6,.pointer (some ⟨b6,0,none⟩)),(7,.pointer (some ⟨b7,0,none⟩)),(12,.int .i64 (n:Nat)),(13,.int .i64 left),(14,.int .i64 k),(15,.int .i64 (aJw left (n - k)))]) ?_ ?_)|refine zL (x:=.tmp 111) (p:=((k:Nat):Int)<((n:Nat):Int)) rfl (fun h=>?_) (fun h=>?_)|refine go1 ?_|refine zg λ_ _=>?_|refine zi λ_ _=>?_)
    ·refine zL (p:=left.tdiv ((n - k:Nat):Int)<0) rfl (fun h2=>?_) (fun h2=>?_)
     ·repeat' (first|refine go1 ?_|refine zg λ_ _=>?_|refine zi λ_ _=>?_)
      exact ⟨(),⟨rfl,rfl,rfl,rfl,rfl,rfl,congrArg (Value.int .i64) (by unfold aJw;rw [if_pos h2]),trivial⟩,rfl⟩
     ·repeat' (first|refine go1 ?_|refine zg λ_ _=>?_|refine zi λ_ _=>?_)
      exact ⟨(),⟨rfl,rfl,rfl,rfl,rfl,rfl,congrArg (Value.int .i64) (by unfold aJw;rw [if_neg h2]),trivial⟩,rfl⟩
    ·rintro _ ρ8 w8 rfl
     generalize hcut:aJw left (n - k)=cv at hcb ⊢
     obtain ⟨b8,hb8⟩:=aYr (z.outs.fdiv (2^(min (2*((k:Nat):Int)).toNat IntKind.i64.bits)))
     obtain ⟨scr,hscr⟩:∃scr,scr=(⟨#[1]⟩:ByteArray)++str [UInt8.ofNat (b8.toNat%3),0,UInt8.ofNat (z.height.toNat%3),0,0,0,0,0]:=⟨_,rfl⟩
     have hsz:(str [UInt8.ofNat (b8.toNat%3),0,UInt8.ofNat (z.height.toNat%3),0,0,0,0,0]).size=8:=gN _
     have hsz1:(⟨#[1]⟩:ByteArray).size=1:=rfl
     iterate 21 (first|refine zg (fun w8' x8=>?_)|refine aD (d:=some 126) (.int .i64 z.outs) rfl (congrArg (fun n=>some (Value.int .i64 n)) (IntWalk.i64_in _ (by omega))) ?_|refine oO (d:=some 128) rfl rfl (by omega) ?_|refine aX2 (d:=some 129) rfl rfl (by omega) ?_|refine aD (d:=some 130) (.int .u8 (b8.toNat:Nat)) rfl (congrArg (fun n=>some (Value.int .u8 n)) hb8) ?_|refine cM (d:=some 131) rfl rfl (aX8 b8 3 (by decide)) ?_|refine cM (d:=some 134) rfl rfl (aX8 z.height 3 (by decide)) ?_|refine zI (d:=some 135) rfl (fun b26 w9 x9 a26 hb26=>?_)|refine go1 ?_|refine zg λ_ _=>?_|refine zi λ_ _=>?_)
     refine vG (d:=some 136) (l:= [UInt8.ofNat (b8.toNat%3),0,UInt8.ofNat (z.height.toNat%3),0,0,0,0,0]) rfl (SlE.new (E:=u8E) a26 rfl (Nat.le_refl _)) ?_
     refine kA (d:=some 137) rfl rfl ?_ ?_
     ·rw [hsz,hsz1];decide
     rw [←hscr]
     clear a26
     repeat' (first|refine bT (d:=some 142) (cs:=aFk ⟨cv,scr⟩) rfl ?_|refine zI (d:=some 143) (cs:=aFk ⟨cv,scr⟩) rfl (fun b w10 x10 a10 hb=>?_)|(refine fM (d:=some 144) (E:=cZ) (M:=aH vi++M1) (v:=vo) (cs:=aFk ⟨cv,scr⟩) (a:=⟨cv,scr⟩) rfl rfl (((u2.ext x8).ext x9).ext x10) (by have:=x8.size;have:=x9.size;have:=x10.size;omega) rfl rfl a10 ⟨rfl,by show aYa cv;unfold aYa;omega⟩ (by omega) (fun v11 w11 o11 c11 hb11=>?_))|refine go1 ?_|refine zg λ_ _=>?_|refine zi λ_ _=>?_)
     have g2:=u2.base
     have l2:=u2.lt
     have x710:=x8.trans (x9.trans x10)
     have s710:=x710.size
     have h3o:b4∉aH vo:=fun h=>by have:=g2 _ h;omega
     have h4o:b6∉aH vo:=fun h=>by have:=g2 _ h;omega
     have h5o:b7∉aH vo:=fun h=>by have:=g2 _ h;omega
     have hvo:∀b∈aH vo,b∉aH vi:=fun b h h'=>by have:=g2 _ h;have:=hI1 _ h';omega
     have u1':=(u1.ext x710).step c11 (M':=aH v11++M1) (fun b h=>⟨hvo b h,.inl (by simp [h])⟩) (fun b h=>by
      rcases List.mem_append.1 h with h|h
      ·rcases hb11 b h with h|h
       ·exact .inl (by simp [h])
       ·exact .inr h
      ·exact .inl (by simp [h]))
     have t3':=At.chg c11 (t3.ext x710) h3o
     have t4':=At.chg c11 (t4.ext x710) h4o
     have t5':=At.chg c11 (t5.ext x710) h5o
     have g11:=o11.base
     have s11:=c11.size
     have xwx:Unit→Chg (aH vo) w w11:=fun _=>Ext.chg ((x7' ()).trans x710) c11
     clear x8 x9 x10 x710
     repeat (first|refine go1 ?_|refine zg λ_ _=>?_|refine zi λ_ _=>?_)
     refine bB (d:=none) (b:=b7) (o:=2) (cur:=tC vi vo lock') rfl rfl o11.one t5' (Nat.le_of_ble_eq_true rfl) (fun w12 c12 a12=>?_)
     have h5v:b7∉aH vi:=fun h=>by have:=hI0 _ h;omega
     have h5w:b7∉aH v11:=fun h=>by have:=g11 _ h;omega
     have u12:=u1'.step c12 (M':=aH v11++M1) (by intro y hy;simp at hy;subst hy;exact ⟨h5v,.inl (by simp [m7])⟩) (fun _ h=>.inl h)
     have o12:=o11.step c12 (M':=aH vi++M1) (by intro y hy;simp at hy;subst hy;exact ⟨h5w,.inl (by simp [m7])⟩) (fun _ h=>.inl h)
     have s12:=c12.size
     have x12:Unit→Ext w w12:=fun _=>((xwx ()).trans c12).mono (by
      intro y hy
      rcases List.mem_append.1 hy with h|h
      ·have:=g2 _ h;right;omega
      ·simp at h;right;omega)
     repeat (first|refine go1 ?_|refine zg λ_ _=>?_|refine zi λ_ _=>?_)
     exact ⟨(k+1,left - cv,v11,O++ [⟨cv,scr⟩]),⟨rfl,rfl,rfl,rfl,rfl,rfl,trivial⟩,⟨x12 (),by omega,At.chg c12 t3' (by simp;omega),by omega,by simp;omega,fun o ho=>by
      rcases List.mem_append.1 ho with ho|ho
      ·exact hOv o ho
      ·simp at ho;subst ho;exact ⟨hcb.1,hcb.2.1⟩,by simp only;omega,At.chg c12 t4' (by simp;omega),a12,u12,o12⟩,by simp;omega⟩
    ·have hkn:k=n:=by omega
     subst hkn
     repeat' (first|refine go1 ?_|refine zg λ_ _=>?_|refine zi λ_ _=>?_)
     refine bA (w0:=w) (vs:=tC vi vo lock') (x7' ()) (by omega) t4 rfl rfl rfl rfl ?_ (fun w12 x12 c12 a12 r12=>?_)
     ·have e1:=u1.one
      have e2:=u2.one
      simp [e1,e2];exact ⟨rfl,rfl⟩
     repeat (first|refine go1 ?_|refine zg λ_ _=>?_|refine zi λ_ _=>?_)
     have g2:=u2.base
     have h4i:b6∉aH vi:=fun h=>by have:=hI0 _ h;omega
     have h4o:b6∉aH vo:=fun h=>by have:=g2 _ h;omega
     have p1:=(u1.step (M':=M1) c12 (by intro y hy;simp at hy;subst hy;exact ⟨h4i,.inl (by simp [m6])⟩) (fun _ h=>.inl (by simp [h]))).sub (M':=M) (fun b hb=>.inl (mM b hb))
     have p2:=(u2.step (M':=M1) c12 (by intro y hy;simp at hy;subst hy;exact ⟨h4o,.inl (by simp [m6])⟩) (fun _ h=>.inl (by simp [h]))).sub (M':=M) (fun b hb=>.inl (mM b hb))
     exact aB (aFx (bK r12 rfl rfl)) ⟨_,⟨2,ins,O,lock'⟩,rfl,⟨vi,vo,rfl,p1.lower s03,p2.lower (by omega),(show jM 2 by unfold jM;omega),(show jM lock' from ⟨hj1,hj2⟩)⟩,⟨hil,by show O.length≤3;omega,hwt,hOv⟩,x12⟩
end
section
open Go Go.K
attribute [local irreducible] aG aK aU KOp.wp K.Spec u32 leS vnS str aN aJ aP bH idT aV bsW
theorem aPy {α:Type} {E:R α} {M:List Nat} {w:World} {b:Nat} {t:TypeId} {cs:List Value} {a:α} (h:At w b (.cells cs.toArray t (0,0))) (ha:E.rel (b::M) w cs a) (hb:b∉M):SlR E M w (.slice (some ⟨b,0,none⟩) 1 1) [a]:=by
 have ef:(fY E.k E.pos).flat [R.vec ha]=cs:=by simp only [Enc.flat,List.flatMap_cons,List.flatMap_nil,List.append_nil];rfl
 have o:bD E t 0 M w (.slice (some ⟨b,0,none⟩) 1 1) [a]:=⟨[R.vec ha],.inr ⟨b,1, [],rfl,Nat.zero_le _,by rw [ef,List.append_nil];exact h,by rw [List.append_nil,Enc.flat_length];rfl⟩,.cons ha .nil⟩
 exact o.sl fun b' hb' h'=>by
  simp [aH] at h'
  subst h';exact hb hb'
theorem aJx {B:Nat} {M:List Nat} {w w':World} {cs:List Value} {t:Tx} {b:Nat} (h:txO B M w cs t) (hM:∀y∈M,y<B) (x:Ext w w') (a:At w' b (.cells cs.toArray T.api_Tx (0,0))) (hb:w.heap.size≤b) (hMl:∀y∈M,y<w.heap.size):SlR txR M w' (.slice (some ⟨b,0,none⟩) 1 1) [t]:=by
 have h2:txR.rel (b::M) w' cs t:=txR.step (h.rel hM) x (by simp) (fun y hy=>by simp only [List.mem_cons] at hy;rcases hy with rfl|hy;exact .inr hb;exact .inl hy)
 exact aPy (E:=txR) a h2 (fun hm=>by have:=hMl _ hm;omega)
set_option maxHeartbeats 4000000 in
theorem aJ5 (w:World):K.Spec Tryz.prog F.kedgelaw13_wakes [] w fun r w'=>r=.bool true∧Ext w w':=by
 refine xD rfl ?_
 unfold lS
 refine oy ?_
 repeat (first|refine go1 ?_|refine zg λ_ _=>?_|refine zi λ_ _=>?_)
 refine zC (d:=some 8) rfl (aEt (U:= []) _ (by simp)) ?_
 rintro _ w1 ⟨c,M1,rfl,C1, -,x1⟩
 repeat (first|(refine aL (fun (p:Nat × List Nat) w'=>Ext w w'∧p.1≤7∧ChR [] w' w.heap.size c p.2 ⟨bsW.take p.1,p.1⟩) (fun p=> [(1,.pointer (some ⟨c,0,none⟩)),(9,.int .i64 (p.1:Nat))]) (fun p=>7 - p.1) (0,M1) ⟨rfl,rfl,trivial⟩ ⟨x1,by simp,C1⟩ ?_;rintro ⟨k,M⟩ ρ w2 ⟨x2,hk,C2⟩;simp only at hk C2;dsimp only)|refine go1 ?_|refine zg λ_ _=>?_|refine zi λ_ _=>?_)
 refine zL (x:=.tmp 10) (p:=((k:Nat):Int)<7) rfl (fun h9=>?_) (fun h9=>?_)
 ·have hk7:k<7:=by omega
  have hlt:=C2.lt
  have hbs:=C2.base
  have s2:=x2.size
  have x2':Unit→Ext w w2:=fun _=>x2
  have ek:((k:Nat):Int)+1=((k+1:Nat):Int):=by omega
  clear x2 x1
  repeat (first|refine bT (d:=some 15) (cs:= [.int .i64 5,.string ⟨#[]⟩]) rfl ?_|refine zI (d:=some 16) (cs:= [.int .i64 5,.string ⟨#[]⟩]) rfl (fun b3 w3 x3 a3 hb3=>?_)|refine go1 ?_|refine zg λ_ _=>?_|refine zi λ_ _=>?_)
  have ho:SlR cZ M w3 (.slice (some ⟨b3,0,none⟩) 1 1) o5:=aPy (E:=cZ) a3 ⟨rfl,⟨by decide,by decide⟩⟩ (fun hm=>by have:=hlt _ hm;omega)
  rw [ek]
  have hM3:∀y∈M,y<w3.heap.size:=fun y hy=>nLt (hlt y hy) x3.size
  refine zC (d:=some 17) rfl (wV (M:=M) (outs:=o5) ((k+1:Nat):Int) _ ⟨by omega,by omega⟩ ho (by decide) hM3) ?_
  rintro _ w4 ⟨cs,rfl,t4,x4⟩
  obtain ⟨iv,ov,rfl, -⟩:=id t4
  have ones:=txR.one (t4.rel hM3)
  repeat (first|refine zI (d:=some 18) (cs:=aT (grT ((k+1:Nat):Int) o5) iv ov) rfl (fun b5 w5 x5 a5 hb5=>?_)|refine go1 ?_|refine zg λ_ _=>?_|refine zi λ_ _=>?_)
  have x25:Ext w2 w5:=x3.trans (x4.trans x5)
  have C5:=C2.ext x25
  have hcl:(aY (bsW.take k)).length+cN [gw (k+1)]≤80000:=by
   unfold aY
   rw [mO hk]
   have:=aIs (n:=k) hk
   have e:cN [gw (k+1)]=1:=rfl
   omega
  have hx5:=aJx t4 hM3 x5 a5 hb5 (fun y hy=>nLt (hM3 y hy) x4.size)
  refine zC (d:=some 19) rfl (aCw (N:=M) (txs:= [gw (k+1)]) _ C5 hx5 (fun y hy=>hy) (by simp) (by simp) (by simp;exact aVo _) (by simp) hcl (by rw [mO hk];omega) (show k≤100000 by omega)) ?_
  rintro e w6 ⟨⟨i,hE⟩,⟨M',C6,hM6⟩,c6⟩
  have he:e=.nilIface:=by
   rcases hE with ⟨_,h5⟩|⟨h5, -⟩
   ·exact h5
   ·exact absurd (aMo hk7) h5
  subst he
  rw [aTb hk7] at C6
  have x06:Ext w w6:=(Ext.chg ((x2' ()).trans x25) c6).mono (fun y hy=>.inr (hbs y hy))
  repeat (first|refine go1 ?_|refine zg λ_ _=>?_|refine zi λ_ _=>?_)
  exact ⟨(k+1,M'),⟨rfl,rfl,trivial⟩,⟨x06,by simp only;omega,C6⟩,by simp only;omega⟩
 ·have ek:k=7:=by omega
  subst ek
  repeat (first|refine go1 ?_|refine zg λ_ _=>?_|refine zi λ_ _=>?_)
  refine zC (d:=some 23) rfl (oX _ C2) ?_
  rintro _ w3 ⟨rfl,x3⟩
  have C3:=C2.ext x3
  have x03:Ext w w3:=x2.trans x3
  have e7:(⟨bsW.take 7,7⟩:Ch).bs.length=7:=mO (by omega)
  rw [e7]
  clear x1 x2 x3
  repeat (first|(refine aL (fun (p:Nat × List Nat) w'=>Ext w w'∧p.1≤6∧ChR [] w' w.heap.size c p.2 ⟨bsW.take (7 - p.1),7⟩) (fun p=> [(1,.pointer (some ⟨c,0,none⟩)),(3,.int .i64 ((7:Nat):Int)),(24,.int .i64 (p.1:Nat))]) (fun p=>6 - p.1) (0,M) ⟨rfl,rfl,rfl,trivial⟩ ⟨x03,by simp,C3⟩ ?_;rintro ⟨j,M4⟩ ρ w4 ⟨x4,hj,C4⟩;simp only at hj C4;dsimp only)|refine go1 ?_|refine zg λ_ _=>?_|refine zi λ_ _=>?_)
  have e4:(⟨bsW.take (7 - j),7⟩:Ch).bs.length=7 - j:=mO (by omega)
  have hcn:∀k,k≤(⟨bsW.take (7 - j),7⟩:Ch).bs.length→(bU (⟨bsW.take (7 - j),7⟩:Ch).bs k).length≤80000:=fun k hk=>nTr (aIs (by rw [e4] at hk;omega)) (by omega)
  have hb4:=C4.base
  refine zL (x:=.tmp 25) (p:=((j:Nat):Int)<6) rfl (fun h9=>?_) (fun h9=>?_)
  ·have hj6:j<6:=by omega
   obtain ⟨d1,d2⟩:=aU5 hj6
   repeat (first|refine go1 ?_|refine zg λ_ _=>?_|refine zi λ_ _=>?_)
   refine zC (d:=some 28) rfl (tL _ C4 hcn (by rw [e4];omega) (show 7≤100000 by omega)) ?_
   rintro _ w5 ⟨tv,M',rfl,C5,hM5,c5,k1, -⟩
   rw [d2] at C5
   rw [d1]
   have k1:=k1 d1
   have eg:(⟨bsW.take (7 - j),7⟩:Ch).bs.getD ((⟨bsW.take (7 - j),7⟩:Ch).bs.length - 1) []= [gw (6 - j+1)]:=by
    rw [e4]
    show (bsW.take (7 - j)).getD (7 - j - 1) []=_
    rw [List.getD_eq_getElem?_getD,List.getElem?_take_of_lt (by omega),←List.getD_eq_getElem?_getD,aO3 (by omega)]
    congr 2;omega
   rw [eg] at k1
   repeat (first|refine zG (d:=some 32) (E:=txR) (l:= [gw (6 - j+1)]) rfl k1 ?_|refine aD (d:=some 33) (.bool false) rfl rfl ?_|refine go1 ?_|refine zg λ_ _=>?_|refine zi λ_ _=>?_)
   exact ⟨(j+1,M'),⟨rfl,rfl,rfl,trivial⟩,⟨(Ext.chg x4 c5).mono (fun y hy=>.inr (hb4 y hy)),by simp only;omega,C5⟩,by simp only;omega⟩
  ·have ej:j=6:=by omega
   subst ej
   repeat (first|refine go1 ?_|refine zg λ_ _=>?_|refine zi λ_ _=>?_)
   refine zC (d:=some 41) rfl (tL _ C4 hcn (by rw [e4];omega) (show 7≤100000 by omega)) ?_
   rintro _ w5 ⟨tv,M',rfl,C5,hM5,c5, -, -⟩
   rw [show fH ⟨bsW.take (7 - 6),7⟩=18 from aUm]
   rw [show eT ⟨bsW.take (7 - 6),7⟩=⟨bsW.take 1,7⟩ from aVp] at C5
   have x05:Ext w w5:=(Ext.chg x4 c5).mono (fun y hy=>.inr (hb4 y hy))
   repeat (first|refine go1 ?_|refine zg λ_ _=>?_|refine zi λ_ _=>?_)
   refine zC (d:=some 52) rfl (oX _ C5) ?_
   rintro _ w6 ⟨rfl,x6⟩
   rw [show (⟨bsW.take 1,7⟩:Ch).bs.length=1 from mO (by omega)]
   repeat (first|refine go1 ?_|refine zg λ_ _=>?_|refine zi λ_ _=>?_)
   refine zC (d:=some 57) rfl (aAi _ (C5.ext x6) (by rw [show (aY (⟨bsW.take 1,7⟩:Ch).bs).length=1 from aPx];omega)) ?_
   rintro v w7 ⟨k7, -,x7⟩
   repeat (first|(refine bP (d:=some 58) rfl k7 ?_;rw [show (aY (⟨bsW.take 1,7⟩:Ch).bs).length=1 from aPx])|refine go1 ?_|refine zg λ_ _=>?_|refine zi λ_ _=>?_)
   exact aB rfl ⟨rfl,x05.trans (x6.trans x7)⟩
end
end Go.Proofs.YtgloknkcfchnlabGreatDoor
