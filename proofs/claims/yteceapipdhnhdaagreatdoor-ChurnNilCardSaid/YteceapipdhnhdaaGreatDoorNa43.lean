/- Contracts: a chain, a block connected. Contracts: a chain, i -/
import Derived.Test.YteceapipdhnhdaaGreatDoorNa13
import Derived.Test.YteceapipdhnhdaaGreatDoorNa40
import Derived.Test.YteceapipdhnhdaaGreatDoorNa41
set_option linter.unusedVariables false
set_option linter.unusedSimpArgs false
namespace Go.Proofs.YteceapipdhnhdaaGreatDoor
section
open Go Go.K
attribute [local irreducible] aH aM aY KOp.wp K.Spec u32 leS vnS str aP aG aX bK idT aQ
theorem bMa {P:Program} {d:Option Tmp} {r:KR} {K:Env→World→Prop} {ρ:Env} {w:World} {x y:Operand} {a b:Nat} (hx:ev ρ x=.int .i64 (a:Nat)) (hy:ev ρ y=.int .i64 (b:Nat)) (k:aH P r K (put ρ d (.int .i64 (max a b:Nat))) w):aH P (.cons ⟨d,.minmax true x [y],none⟩ r) K ρ w:=
 cS rfl (by
  have e:(if (a:Int)<(b:Int) then (b:Int) else (a:Int))=((max a b:Nat):Int):=by split<;>omega
  simp only [KOp.fix,List.foldl_cons,List.foldl_nil,hx,hy,Option.bind_some,wC,if_true,e]) k
theorem aPi.off {w w':World} {b6:Nat} {z:Array Value} {t:TypeId} (ha:At w b6 (.cells z t (0,0))) (ht:t≠T.api_Fault) (cc:Chg [b6] w w') {v:Value} {c a i:Int} (h:aPi w v c a i):aPi w' v c a i:=by
 rcases h with h|⟨h1,h|⟨h2,b,u,h3,h4,h5⟩⟩
 ·exact .inl h
 ·exact .inr ⟨h1,.inl h⟩
 ·refine .inr ⟨h1,.inr ⟨h2,b,u,h3,h4.chg cc ?_,dD.off ha ht cc h5⟩⟩
  simp only [List.mem_singleton]
  intro e
  subst e
  have:=h4.inj ha
  simp only [Obj.cells.injEq] at this
  exact ht this.2.1.symm
theorem aPi.ext {w w':World} {v:Value} {c a i:Int} (h:aPi w v c a i) (x:Ext w w'):aPi w' v c a i:=by
 rcases h with h|⟨h1,h|⟨h2,b,u,h3,h4,h5⟩⟩
 ·exact .inl h
 ·exact .inr ⟨h1,.inl h⟩
 ·exact .inr ⟨h1,.inr ⟨h2,b,u,h3,h4.ext x,h5.ext x⟩⟩
theorem bK7 {M:List Nat} {w:World} {b:Nat} {v:Value} {l:List En} {t:TypeId} (h:SlR enR M w v l) (ha:At w b (.cells [Value.slice none 0 0,.slice none 0 0].toArray t (0,0))):SlR enR (b::M) w v l:=
 SlR.off h ha (fun cs x hr=>⟨.string x.1.s,_,hr,by simp⟩) (fun cs x hr=>hr)
theorem bAl {l0:List En} {h:Int}:∀(txs:List Tx) (i:Nat) (m:List En),(kG l0 h i txs m).2.1≠0→(kG l0 h i txs m).1=l0
 | [],_,_,h0=>absurd rfl h0
 |t::ts,i,m,h0=>by
  unfold kG at h0 ⊢
  split
  ·rfl
  ·rename_i hc
   rw [if_neg hc] at h0
   exact bAl ts (i+1) _ h0
theorem bAv {l:List En} {txs:List Tx} {b:Int} (h0:(aX l txs b).2.1≠0):(aX l txs b).1=l:=by
 unfold aX at h0 ⊢
 split
 ·rfl
 ·rename_i hc
  rw [if_neg hc] at h0
  exact bAl _ _ _ h0
def bSg (w:World) (b mb:Nat) (l:List En) (x:List En × Int × Int × Int) (b5:Nat) (sv mv e:Value) (w':World):Prop:=
 aPi w' e x.2.1 x.2.2.1 x.2.2.2∧gE T.coins_Set w' b mb x.1∧(x.2.1=0→SlE cQ w' sv (eF l x.1)∧SlE cQ w' mv (eF x.1 l)∧∀y,y∈aC sv∨y∈aC mv→w.heap.size≤y)∧(x.2.1≠0→sv=.slice none 0 0∧mv=.slice none 0 0)∧Chg [b,mb] w w'∧
  At w' b5 (.cells [Value.slice none 0 0,.slice none 0 0].toArray T.block_Undo (0,0))∧w.heap.size≤b5
set_option maxHeartbeats 4000000 in
theorem aXx {U:List Nat} {B c:Nat} {M N:List Nat} {ch:Ch} {v:Value} {txs:List Tx} (w:World) (h:ChR U w B c M ch) (hx:SlR txR N w v txs) (hMN:∀y∈M,y∈N) (hU:∀y∈U,y∈N) (hUl:∀y∈U,y<w.heap.size) (hs:∀t∈txs,t.Sm) (hk0:txs.length≤1000) (hn:(bF ch.bs).length+dT txs≤80000) (hl:ch.bs.length≤100000) (ht:ch.top≤100000):
  K.Spec Tryz.prog F.chain_Chain_Connect [.pointer (some ⟨c,0,none⟩),v] w fun r w'=>(∃i,aPi w' r (gN ch txs).1 (gN ch txs).2 i)∧(∃M',ChR U w' B c M' (dA ch txs)∧∀y∈M',y∈M∨w.heap.size≤y)∧Chg M w w':=by
 have hlt:=h.lt
 obtain ⟨b,mb,lv,h1,h2,h3,hM,g1,g2,g3,g4,g5,g6,g8⟩:=id h
 have hcM:c∈M:=by rw [hM];simp
 have hbM:b∈M:=by rw [hM];simp
 have hmM:mb∈M:=by rw [hM];simp
 have hlM:∀y∈aC lv,y∈M:=fun y hy=>by rw [hM];simp [hy]
 have g7:=h2.ne
 have lc:=hlt c hcM
 have lb:=hlt b hbM
 have lm:=hlt mb hmM
 have r1:=Row.of_at h1
 have sl:=h3.sl (fun y hy hv=>by
  rcases List.mem_append.1 hy with hy|hy
  ·have:=g6 y hv;simp at hy;omega
  ·exact g8 y (hlM y hv) hy)
 have hll:(cG ch.bs).length=ch.bs.length:=aAt _
 have eI:(((cG ch.bs).length:Nat):Int)+1=((ch.bs.length+1:Nat):Int):=by rw [hll];omega
 refine aBm rfl ?_
 unfold pF
 refine oy ?_
 repeat (first|refine zG (d:=some 16) (E:=lkR) (l:=cG ch.bs) rfl sl ?_|refine aL (d:=some 17) (.bool false) rfl (congrArg (fun b=>some (Value.bool b)) (dFa (by omega))) ?_|refine zG (d:=some 29) (E:=lkR) (l:=cG ch.bs) rfl (SlR.ext sl (by exact fx)) ?_|(refine zg (fun w1 x12=>?_);have s12:=x12.size)|refine dN (b:=.cons ⟨none,.storeN _ _ _,_⟩ _) (fun (p:Nat × Value × Value × Value) w'=>bSg w b mb (bF ch.bs) (aX (bF ch.bs) txs ((ch.bs.length+1:Nat):Int)) p.1 p.2.1 p.2.2.1 p.2.2.2 w') (fun p=> [(0,.pointer (some ⟨c,0,none⟩)),(1,v),(5,.pointer (some ⟨p.1,0,none⟩)),(32,.agg #[p.2.1,p.2.2.1]),(33,p.2.2.2)]) ?_ ?_|(first|refine go2 ?_|fail))
 ·have hc0:=jH ch.bs ch.bs.length
  have hs0:=sL ch.bs ch.bs.length
  rw [eI]
  refine zB ?_ ?_
  ·repeat (first|refine zi (fun w2 x2=>?_)|(refine zC (d:=some 31) rfl (aL2 (M:=M) (l:=bF ch.bs) ((ch.bs.length+1:Nat):Int) _ (h2.ext (by exact fx)) hc0 hs0 hbM hmM (fun y hy=>nLt (hlt y hy) (Ext.size (show Ext w _ by exact fx))) ((hx.sub (fun y hy=>.inl (hMN y hy))).ext (by exact fx)) hs hn hk0) ?_;rintro _ w6 ⟨sv,mv,e,rfl,hA1,hA2,hA3,hA4,hA5⟩)|refine zH (d:=some 5) (fun b5 w5 x5 a5 hb5=>?_)|(first|refine go2 ?_|fail))
   exact ⟨(b5,sv,mv,e),⟨rfl,rfl,rfl,rfl,rfl,trivial⟩,hA1.ext x5,hA2.ext x5,fun q=>⟨(hA3 q).1.ext x5,(hA3 q).2.1.ext x5,fun y hy=>nTr s12 ((hA3 q).2.2 y hy)⟩,hA4,(Chg.trans x12 (hA5.trans x5)).mono (by simp),a5,nTr (nTr s12 hA5.size) hb5⟩
  ·repeat (first|refine zi (fun w2 x2=>?_)|(refine zC (d:=some 31) rfl (aL2 (M:=M) (l:=bF ch.bs) ((ch.bs.length+1:Nat):Int) _ (h2.ext (by exact fx)) hc0 hs0 hbM hmM (fun y hy=>nLt (hlt y hy) (Ext.size (show Ext w _ by exact fx))) ((hx.sub (fun y hy=>.inl (hMN y hy))).ext (by exact fx)) hs hn hk0) ?_;rintro _ w6 ⟨sv,mv,e,rfl,hA1,hA2,hA3,hA4,hA5⟩)|refine zH (d:=some 5) (fun b5 w5 x5 a5 hb5=>?_)|(first|refine go2 ?_|fail))
   exact ⟨(b5,sv,mv,e),⟨rfl,rfl,rfl,rfl,rfl,trivial⟩,hA1,hA2,fun q=>⟨(hA3 q).1,(hA3 q).2.1,fun y hy=>nTr (nTr s12 x5.size) ((hA3 q).2.2 y hy)⟩,hA4,(Chg.trans x12 (Chg.trans x5 hA5)).mono (by simp),a5.chg hA5 (by simp;omega),nTr s12 hb5⟩
 ·rintro ⟨b5,sv,mv,e⟩ ρ w3 ⟨hA1,hA2,hA3,hA4,hA5,a5,hb5⟩
  dsimp only
  simp only at hA1 hA2 hA3 hA4 hA5 a5 hb5
  have o1:sv.oneCell'=true:=by
   by_cases h0:(gN ch txs).1=0
   ·obtain ⟨_,_,_,q, -⟩:=(hA3 h0).1;rw [q];rfl
   ·rw [(hA4 h0).1];rfl
  have o2:mv.oneCell'=true:=by
   by_cases h0:(gN ch txs).1=0
   ·obtain ⟨_,_,_,q, -⟩:=(hA3 h0).2.1;rw [q];rfl
   ·rw [(hA4 h0).2];rfl
  refine cE (b:=b5) (vs:= [sv,mv]) rfl rfl rfl (by simp [o1,o2]) a5 rfl (fun w4 c4 a4=>?_)
  by_cases h0:(gN ch txs).1=0
  ·obtain ⟨hsv,hmv,hsb⟩:=hA3 h0
   have he:e=.nilIface:=by
    rcases hA1 with ⟨_,h5⟩|⟨h5, -⟩
    ·exact h5
    ·exact absurd h0 h5
   subst he
   have e0:(gN ch txs).1=0:=h0
   have e2:dA ch txs=⟨ch.bs++ [txs],max ch.top (ch.bs.length+1)⟩:=by
    unfold dA
    rw [if_neg (by simpa using h0)]
   obtain ⟨lk,hlk⟩:∃lk:Lk,lk=⟨txs,eF (bF ch.bs) (aX (bF ch.bs) txs ((ch.bs.length+1:Nat):Int)).1,eF (aX (bF ch.bs) txs ((ch.bs.length+1:Nat):Int)).1 (bF ch.bs)⟩:=⟨_,rfl⟩
   have elk:(⟨txs,lk.spent,lk.made⟩:Lk)=lk:=by rw [hlk]
   have c04:Chg [b,mb,b5] w w4:=hA5.trans c4
   have s04:=c04.size
   have hin:∀y∈aC lv++([c,b,mb]++U),y∈M∨y∈U:=fun y hy=>by
    simp at hy
    rcases hy with hy|rfl|rfl|rfl|hy
    ·exact .inl (hlM y hy)
    ·exact .inl hcM
    ·exact .inl hbM
    ·exact .inl hmM
    ·exact .inr hy
   have hinl:∀y∈aC lv++([c,b,mb]++U),y<w.heap.size:=fun y hy=>(hin y hy).elim (hlt y) (hUl y)
   have hinN:∀y∈aC lv++([c,b,mb]++U),y∈N:=fun y hy=>(hin y hy).elim (hMN y) (hU y)
   have hsv4:SlR enR (aC lv++([c,b,mb]++U)) w4 sv lk.spent:=by
    have q1:SlR enR (aC lv++([c,b,mb]++U)) w3 sv _:=hsv.en fun y hy hm=>by have:=hsb y (.inl hy);have:=hinl y hm;omega
    rw [hlk]
    exact (bK7 q1 a5).step c4 (fun y hy=>.inl (by simp at hy;simp [hy])) (fun y hy=>.inl (List.mem_cons_of_mem _ hy))
   have hmv4:SlR enR (aC lv++([c,b,mb]++U)) w4 mv lk.made:=by
    have q1:SlR enR (aC lv++([c,b,mb]++U)) w3 mv _:=hmv.en fun y hy hm=>by have:=hsb y (.inr hy);have:=hinl y hm;omega
    rw [hlk]
    exact (bK7 q1 a5).step c4 (fun y hy=>.inl (by simp at hy;simp [hy])) (fun y hy=>.inl (List.mem_cons_of_mem _ hy))
   have hx4:SlR txR N w4 v txs:=hx.step c04 (fun y hy=>by
    simp at hy
    rcases hy with rfl|rfl|rfl
    ·exact .inl (hMN _ hbM)
    ·exact .inl (hMN _ hmM)
    ·exact .inr hb5) (fun y hy=>.inl hy)
   have own4:bH lkR T.chain_link B ([c,b,mb]++U) w4 lv (cG ch.bs):=h3.step c04 (fun y hy=>by
    simp at hy
    rcases hy with rfl|rfl|rfl
    ·exact ⟨fun h=>(g6 _ h).2.1 rfl,.inl (by simp)⟩
    ·exact ⟨fun h=>(g6 _ h).2.2 rfl,.inl (by simp)⟩
    ·exact ⟨fun h=>by have:=hlt _ (hlM _ h);omega,.inr hb5⟩) (fun y hy=>.inl hy)
   have h14:At w4 c (.cells (aRt b lv ch.top).toArray T.chain_Chain (0,0)):=h1.chg c04 (by simp;omega)
   have S4:gE T.coins_Set w4 b mb (bF (ch.bs++ [txs])):=by
    rw [aL4]
    exact hA2.chg c4 (by simp;omega) (by simp;omega)
   have r14:=Row.of_at h14
   have r54:=Row.of_at a4
   have hlt4:∀y∈aC lv++([c,b,mb]++U),y<w4.heap.size:=fun y hy=>nLt (hinl y hy) s04
   have hB4:B≤w4.heap.size:=by omega
   have ow:lv.oneCell'=true:=h3.one
   clear hA1 hA2 hA3 hA4 hA5 a5 a4 c4 hsv hmv r1 sl h2 h3 h1 h
   repeat (first|refine zg (fun w5 x5=>?_)|refine dN (b:=.cons ⟨some 46,_,_⟩ _) (fun (p:Nat × List Value) w'=>Ext w4 w'∧At w' p.1 (.cells p.2.toArray T.chain_link (0,0))∧lkR.rel (aC lv++([c,b,mb]++U)) w' p.2 lk) (fun p=> [(0,.pointer (some ⟨c,0,none⟩)),(37,.pointer (some ⟨c,0,none⟩)),(41,lv),(45,.slice (some ⟨p.1,0,none⟩) 1 1)]) ?_ ?_|(first|refine go2 ?_|fail))
   ·repeat' (first|refine zB ?_ ?_|(refine zC (d:=some 44) rfl (aZw (M:=aC lv++([c,b,mb]++U)) (N:=N) (txs:=txs) (spent:=lk.spent) (made:=lk.made) _ (hx4.ext (by exact fx)) hs (fun y hy=>hinN y hy) (fun y hy=>nLt (hlt4 y hy) (Ext.size (show Ext w4 _ by exact fx))) hk0 (SlR.ext hsv4 (by exact fx)) (SlR.ext hmv4 (by exact fx))) ?_;rintro _ w6 ⟨cs,rfl,rel6,x6⟩;obtain ⟨tv,iv,sv',mv',mp,rfl,z1,z2,z3,z4,z5⟩:=id rel6)|refine zI (d:=some 45) (cs:= [tv,iv,sv',mv',mp]) rfl (fun b7 w7 x7 a7 hb7=>?_)|(first|refine go2 ?_|fail))
    all_goals exact aKf ⟨(b7, [tv,iv,sv',mv',mp]),⟨rfl,rfl,rfl,rfl,trivial⟩,x5.trans (x6.trans x7),a7,(congrArg (lkR.rel (aC lv++([c,b,mb]++U)) _ _) elk).mp (R.ext rel6 x7)⟩
   ·rintro ⟨b7,cs⟩ ρ w8 ⟨x8,a7,rel8⟩
    dsimp only at x8 a7 rel8 ⊢
    have s8:=x8.size
    refine eM (d:=some 46) (E:=lkR) (M:= [c,b,mb]++U) (v:=lv) (cs:=cs) (a:=lk) (B:=B) rfl rfl (own4.ext x8) (nTr hB4 s8) rfl rfl a7 rel8 (by rw [hll];omega) (fun v9 w9 o9 c9 hb9=>?_)
    have s9:=c9.size
    have h19:At w9 c (.cells (aRt b lv ch.top).toArray T.chain_Chain (0,0)):=(h14.ext x8).chg c9 (fun h=>(g6 _ h).1 rfl)
    have S9:gE T.coins_Set w9 b mb (bF (ch.bs++ [txs])):=(S4.ext x8).chg c9 (fun h=>(g6 _ h).2.1 rfl) (fun h=>(g6 _ h).2.2 rfl)
    have o9b:∀y∈aC v9,y≠c∧y≠b∧y≠mb:=fun y hy=>by
     rcases hb9 y hy with h|h
     ·exact g6 y h
     ·omega
    repeat (first|refine go2 ?_|fail)
    refine bC (b:=c) (o:=1) (cur:=aRt b lv ch.top) rfl rfl o9.one h19 (Nat.le_of_ble_eq_true rfl) (fun w10 c10 a10=>?_)
    have o10:=o9.step c10 (M':= [c,b,mb]++U) (fun y hy=>by
     simp at hy;subst hy
     exact ⟨fun h=>(o9b _ h).1 rfl,.inl (by simp)⟩) (fun y hy=>.inl hy)
    have S10:=S9.chg c10 (by simp;omega) (by simp;omega)
    have a10':At w10 c (.cells (aRt b v9 ch.top).toArray T.chain_Chain (0,0)):=a10
    have r10:=Row.of_at a10'
    have o9u:∀y∈aC v9,y∉U:=fun y hy hu=>by
     rcases hb9 y hy with h|h
     ·exact g8 y (hlM y h) hu
     ·have:=hUl y hu;omega
    have sl10:=o10.sl (fun y hy hv=>by
     rcases List.mem_append.1 hy with hy|hy
     ·have:=o9b y hv;simp at hy;omega
     ·exact o9u y hv hy)
    have ell:(cG ch.bs++ [lk]).length=ch.bs.length+1:=by simp [hll]
    repeat (first|refine zg (fun w11 x11=>?_)|refine zG (d:=some 58) (E:=lkR) (l:=cG ch.bs++ [lk]) rfl (SlR.ext sl10 (by exact fx)) ?_|refine bMa (d:=some 59) (a:=ch.top) (b:=(cG ch.bs++ [lk]).length) rfl rfl ?_|(first|refine go2 ?_|fail))
    refine bC (b:=c) (o:=2) (cur:=aRt b v9 ch.top) rfl rfl rfl (a10'.ext x11) (Nat.le_of_ble_eq_true rfl) (fun w12 c12 a12=>?_)
    repeat (first|refine go2 ?_|fail)
    have o12:=(o10.ext x11).step c12 (M':= [c,b,mb]++U) (fun y hy=>by
     simp at hy;subst hy
     exact ⟨fun h=>(o9b _ h).1 rfl,.inl (by simp)⟩) (fun y hy=>.inl hy)
    have a12':At w12 c (.cells (aRt b v9 (max ch.top (ch.bs.length+1))).toArray T.chain_Chain (0,0)):=by rw [←ell];exact a12
    refine aA rfl ⟨⟨-1,.inl ⟨e0,rfl⟩⟩,⟨[c,b,mb]++aC v9,?_,fun y hy=>?_⟩,?_⟩
    ·rw [e2]
     refine ⟨b,mb,v9,a12',(S10.ext x11).chg c12 (by simp;omega) (by simp;omega),?_,rfl,g1,g2,g3,g4,g5,o9b,fun y hy hu=>by
      simp at hy
      rcases hy with rfl|rfl|rfl|hy
      ·exact g8 _ hcM hu
      ·exact g8 _ hbM hu
      ·exact g8 _ hmM hu
      ·exact o9u y hy hu⟩
     rw [aWs,←hlk]
     exact o12
    ·simp at hy
     rcases hy with rfl|rfl|rfl|hy
     ·exact .inl hcM
     ·exact .inl hbM
     ·exact .inl hmM
     ·exact (hb9 y hy).imp (hlM y) (fun h=>by omega)
    ·have q:=(((Chg.trans (c04.trans x8) c9).trans c10).trans x11).trans c12
     refine q.mono fun y hy=>?_
     simp at hy
     rcases hy with rfl|rfl|rfl|hy|rfl
     ·exact .inl hbM
     ·exact .inl hmM
     ·exact .inr hb5
     ·exact .inl (hlM y hy)
     ·exact .inl hcM
  ·have hA14:=hA1.off a5 (by decide) c4
   rcases hA14 with ⟨h5, -⟩|⟨-,h5⟩
   ·exact absurd h5 h0
   obtain ⟨et,eu,rfl⟩:∃et eu,e=.iface et eu:=by
    rcases h5 with ⟨h5, -⟩|⟨-,_,_,h5, -⟩
    ·exact ⟨_,_,h5⟩
    ·exact ⟨_,_,h5⟩
   repeat (first|refine go2 ?_|fail)
   refine aA rfl ⟨⟨_,hA1.off a5 (by decide) c4⟩,⟨M,?_,fun y hy=>.inl hy⟩,(hA5.trans c4).mono (fun y hy=>by
    simp at hy
    rcases hy with rfl|rfl|rfl
    ·exact .inl hbM
    ·exact .inl hmM
    ·exact .inr hb5)⟩
   have e1:dA ch txs=ch:=by unfold dA;rw [if_pos h0]
   rw [e1]
   rw [bAv h0] at hA2
   exact ⟨b,mb,lv,h1.chg (hA5.trans c4) (by simp;omega),hA2.chg c4 (by simp;omega) (by simp;omega),h3.step (hA5.trans c4) (fun y hy=>by
    simp at hy
    rcases hy with rfl|rfl|rfl
    ·exact ⟨fun h=>(g6 _ h).2.1 rfl,.inl (by simp)⟩
    ·exact ⟨fun h=>(g6 _ h).2.2 rfl,.inl (by simp)⟩
    ·exact ⟨fun h=>by have:=hlt _ (hlM _ h);omega,.inr hb5⟩) (fun y hy=>.inl hy),hM,g1,g2,g3,g4,g5,g6,g8⟩
end
end Go.Proofs.YteceapipdhnhdaaGreatDoor
section
namespace Go.K
open Go
section
variable {P:Program} {d:Option Tmp} {r:KR} {K:Env→World→Prop} {ρ:Env} {w:World}
theorem bKg {α:Type} {E:R α} {t:TypeId} {B:Nat} {M:List Nat} {v:Value} {l:List α} {size:Nat} {x i:Operand} {kd:IntKind} {n:Nat} (hx:ev ρ x=v) (hi:ev ρ i=.int kd (n:Nat)) (hs:bH E t B M w v l) (hk:size=E.k) (hr:n<l.length)
  (k:∀ad cs,Row w ad cs→E.rel (aC v++M) w cs l[n]→aH P r K (put ρ d (.pointer (some ad))) w):aH P (.cons ⟨d,.indexAddr size x i,none⟩ r) K ρ w:=by
 obtain ⟨css,h1,h2⟩:=hs
 have hr':n<css.length:=by rw [h2.length];exact hr
 exact aT (E:=jM E.k E.pos) hx hi h1.sl hk hr' fun ad hrow=>k ad _ hrow (h2.get n hr' hr)
theorem aWi {x:Operand} {n:Nat} (hx:ev ρ x=.int .i64 (n:Nat)) (h0:0<n) (hr:n≤1000000) (k:aH P r K (put ρ d (.int .i64 (n - 1:Nat))) w):aH P (.cons ⟨d,.bin .sub x (.const (.int .i64 1)),none⟩ r) K ρ w:=
 bJu hx rfl (by omega) (by rw [show ((n:Nat):Int) - 1=((n - 1:Nat):Int) by omega];exact k)
theorem bOd {size:Nat} {x h:Operand} {b len cap n:Nat} {kd:IntKind} (hx:ev ρ x=.slice (some ⟨b,0,none⟩) len cap) (hh:ev ρ h=.int kd (n:Nat)) (hn:n≤cap) (k:aH P r K (put ρ d (.slice (some ⟨b,0,none⟩) n cap)) w):aH P (.cons ⟨d,.sliceSl size x none (some h),none⟩ r) K ρ w:=by
 refine cS rfl ?_ k
 have e:(Addr.add ⟨b,0,none⟩ 0)=⟨b,0,none⟩:=rfl
 simp only [KOp.fix,hx,hh,Option.bind_some,Option.map_some]
 rw [if_pos (by omega)]
 by_cases hc:cap=0
 ·simp [hc]
 ·simp [hc,e]
end
end Go.K
namespace Go.Proofs.YteceapipdhnhdaaGreatDoor
open Go Go.K
attribute [local irreducible] aH aM aY KOp.wp K.Spec u32 leS vnS str aP aG aX bK idT aQ
set_option maxHeartbeats 4000000 in
theorem aX8 {U:List Nat} {B c:Nat} {M:List Nat} {ch:Ch} (w:World) (h:ChR U w B c M ch) (hn:∀k,k≤ch.bs.length→(cK ch.bs k).length≤80000) (hl:ch.bs.length≤100000) (ht:ch.top≤100000):
  K.Spec Tryz.prog F.chain_Chain_Disconnect [.pointer (some ⟨c,0,none⟩)] w fun r w'=>∃tv M',r=.tuple #[tv,.int .i64 (aA7 ch)]∧ChR U w' B c M' (aIp ch)∧(∀y∈M',y∈M)∧Chg M w w'∧(aA7 ch=0→SlR txR (M'++U) w' tv (ch.bs.getD (ch.bs.length - 1) []))∧(aA7 ch≠0→tv=.slice none 0 0):=by
 have hlt:=h.lt
 obtain ⟨b,mb,lv,h1,h2,h3,hM,g1,g2,g3,g4,g5,g6,g8⟩:=id h
 have hcM:c∈M:=by rw [hM];simp
 have hbM:b∈M:=by rw [hM];simp
 have hmM:mb∈M:=by rw [hM];simp
 have hlM:∀y∈aC lv,y∈M:=fun y hy=>by rw [hM];simp [hy]
 have g7:=h2.ne
 have lc:=hlt c hcM
 have lb:=hlt b hbM
 have lm:=hlt mb hmM
 have r1:=Row.of_at h1
 have sl:=h3.sl (fun y hy hv=>by
  rcases List.mem_append.1 hy with hy|hy
  ·have:=g6 y hv;simp at hy;omega
  ·exact g8 y (hlM y hv) hy)
 have hll:(cG ch.bs).length=ch.bs.length:=aAt _
 refine xD rfl ?_
 unfold lD
 refine oy ?_
 by_cases q0:ch.bs.length=0
 ·have e0:aA7 ch=8:=by unfold aA7;rw [if_pos q0]
  have e1:aIp ch=ch:=by unfold aIp;rw [if_pos (by rw [e0];decide)]
  rw [e0,e1]
  repeat (first|refine zG (d:=some 14) (E:=lkR) (l:=cG ch.bs) rfl sl ?_|refine aL (d:=some 15) (.bool true) rfl (congrArg (fun b=>some (Value.bool b)) (dTr (by omega))) ?_|(first|refine go2 ?_|fail))
  exact aA rfl ⟨_,M,rfl,h,fun y hy=>hy,Chg.refl _ _,fun q=>absurd q (by decide),fun _=>rfl⟩
 ·by_cases q1:ch.bs.length+6≤ch.top
  ·have e0:aA7 ch=18:=by unfold aA7;rw [if_neg q0,if_pos q1]
   have e1:aIp ch=ch:=by unfold aIp;rw [if_pos (by rw [e0];decide)]
   rw [e0,e1]
   repeat (first|refine zG (d:=some 14) (E:=lkR) (l:=cG ch.bs) rfl sl ?_|refine aL (d:=some 15) (.bool false) rfl (congrArg (fun b=>some (Value.bool b)) (dFa (by omega))) ?_|refine zg (fun w2 x2=>?_)|refine zG (d:=some 21) (E:=lkR) (l:=cG ch.bs) rfl (SlR.ext sl (by exact fx)) ?_|refine aL (d:=some 27) (.bool true) rfl (congrArg (fun b=>some (Value.bool b)) (dTr (by omega))) ?_|(first|refine go2 ?_|fail))
   exact aA rfl ⟨_,M,rfl,h.ext x2,fun y hy=>hy,Chg.mono x2 (by simp),fun q=>absurd q (by decide),fun _=>rfl⟩
  ·have e0:aA7 ch=0:=by unfold aA7;rw [if_neg q0,if_neg q1]
   have e1:aIp ch=⟨ch.bs.take (ch.bs.length - 1),ch.top⟩:=by unfold aIp;rw [if_neg (by simp [e0])]
   obtain ⟨n,hnn⟩:∃n,ch.bs.length=n+1:=⟨ch.bs.length - 1,by omega⟩
   have en:ch.bs.length - 1=n:=by omega
   have hkl:n<(cG ch.bs).length:=by omega
   have eS:bF ch.bs=cK ch.bs (n+1):=by unfold bF;rw [hnn]
   rw [eS] at h2
   have elk:(cG ch.bs)[n]=lkN ch.bs n:=bGv (by omega)
   obtain ⟨bl,cap,elv,hcap⟩:∃bl cap,lv=.slice (some ⟨bl,0,none⟩) (cG ch.bs).length cap∧(cG ch.bs).length≤cap:=by
    rcases h3.form with ⟨-,h⟩|h
    ·rw [h] at hkl;simp at hkl
    ·exact h
   subst elv
   have hin:∀y∈ [bl]++ [c,b,mb],y∈M:=fun y hy=>by
    simp at hy
    rcases hy with rfl|rfl|rfl|rfl
    ·exact hlM _ (by simp [aC])
    ·exact hcM
    ·exact hbM
    ·exact hmM
   have g6':=g6 bl (by simp [aC])
   have lbl:=hlt bl (hin bl (by simp))
   repeat (first|refine zg (fun w3 x3=>?_)|refine zG (d:=some 14) (E:=lkR) (l:=cG ch.bs) rfl sl ?_|refine aL (d:=some 15) (.bool false) rfl (congrArg (fun b=>some (Value.bool b)) (dFa (by omega))) ?_|refine zG (d:=some 21) (E:=lkR) (l:=cG ch.bs) rfl (SlR.ext sl (by exact fx)) ?_|refine aL (d:=some 27) (.bool false) rfl (congrArg (fun b=>some (Value.bool b)) (dFa (by omega))) ?_|refine zG (d:=some 36) (E:=lkR) (l:=cG ch.bs) rfl (SlR.ext sl (by exact fx)) ?_|refine aWi (d:=some 37) (n:=(cG ch.bs).length) rfl (by omega) (by omega) ?_|(rw [show (cG ch.bs).length - 1=n by omega];refine bKg (d:=some 38) (v:=.slice (some ⟨bl,0,none⟩) (cG ch.bs).length cap) (E:=lkR) (M:= [c,b,mb]++U) (B:=B) (t:=T.chain_link) rfl rfl (n:=n) (l:=cG ch.bs) (bH.ext h3 (by exact fx)) rfl hkl (fun ad cs r4 he=>?_);rw [elk] at he;obtain ⟨tv,iv,sv,mv,mp,rfl, -⟩:=id he)|refine zH (d:=some 4) (fun b4 w4 x4 a4 hb4=>?_)|(first|refine go2 ?_|fail))
   have x03:Ext w w3:=by exact fx
   have x04:Ext w w4:=by exact fx
   have s03:=x03.size
   have he':lkR.rel ([bl]++([c,b,mb]++U)) w3 [tv,iv,sv,mv,mp] (lkN ch.bs n):=he
   have ones:=lkR.one he'
   refine cE (b:=b4) (vs:= [tv,iv,sv,mv,mp]) rfl rfl rfl ones a4 rfl (fun w5 c5 a5=>?_)
   have c35:Chg [b4] w3 w5:=(Chg.trans x4 c5).mono (by simp)
   have c05:Chg [b4] w w5:=(Chg.trans x04 c5).mono (by simp)
   have he5:lkR.rel ([bl]++([c,b,mb]++U)) w5 [tv,iv,sv,mv,mp] (lkN ch.bs n):=lkR.step he' c35 (fun y hy=>.inr (by simp at hy;omega)) (fun y hy=>.inl hy)
   obtain ⟨tv',iv',sv',mv',mp',heq,z1,z2,z3,z4,z5⟩:=he5
   simp only [List.cons.injEq,and_true] at heq
   obtain ⟨rfl,rfl,rfl,rfl,rfl⟩:=heq
   have h15:=h1.chg c05 (by simp;omega)
   have S5:=h2.chg c05 (by simp;omega) (by simp;omega)
   have own5:=h3.step c05 (M':= [c,b,mb]++U) (fun y hy=>by
    simp at hy;subst hy
    exact ⟨by simp [aC];omega,.inr (by omega)⟩) (fun y hy=>.inl hy)
   have r15:=Row.of_at h15
   have r45:=Row.of_at a5
   have n1:=hn n (by omega)
   have n2:=hn (n+1) (by omega)
   have n3:=yP (cK ch.bs n) (cK ch.bs (n+1))
   have n4:=yP (cK ch.bs (n+1)) (cK ch.bs n)
   clear c35 c5 a4 x4 he he' r4 x03 x04 r1 sl h h1 h2 h3
   have sub:∀y∈ [b,mb],y∈ [bl]++([c,b,mb]++U):=fun y hy=>by simp at hy;rcases hy with rfl|rfl<;>simp
   refine aKf ?_
   repeat (first|refine zg (fun w6 x6=>?_)|(first|refine go2 ?_|fail)|refine aKf ?_)
   refine zC (d:=some 46) rfl (aVp (l:=cK ch.bs (n+1)) (spent:=(lkN ch.bs n).spent) (made:=(lkN ch.bs n).made) _ (S5.ext x6) ((z3.sub (fun y hy=>.inl (sub y hy))).ext x6) ((z4.sub (fun y hy=>.inl (sub y hy))).ext x6) (nTr n3 (by omega)) (nTr n4 (by omega)) (by rw [aSy])) ?_
   rw [aSy]
   rintro _ w7 ⟨rfl,S7,c7⟩
   have h17:=(h15.ext x6).chg c7 (by simp;omega)
   have a7:=(At.ext x6 a5).chg c7 (by simp;omega)
   have own7:=(own5.ext x6).step c7 (M':= [c,b,mb]++U) (fun y hy=>by
    simp at hy
    rcases hy with rfl|rfl
    ·exact ⟨by simp [aC];omega,.inl (by simp)⟩
    ·exact ⟨by simp [aC];omega,.inl (by simp)⟩) (fun y hy=>.inl hy)
   have z17:SlR txR ([bl]++([c,b,mb]++U)) w7 tv (lkN ch.bs n).txs:=(z1.ext x6).step c7 (fun y hy=>.inl (sub y hy)) (fun y hy=>.inl hy)
   have r17:=Row.of_at h17
   have r47:=Row.of_at a7
   have sl7:=own7.sl (fun y hy hv=>by
    simp [aC] at hv
    rcases List.mem_append.1 hy with hy|hy
    ·simp at hy;omega
    ·subst hv;exact g8 _ (hin _ (by simp)) hy)
   have hcl:=(cG ch.bs).length
   have s7:w.heap.size≤w7.heap.size:=nTr c05.size (nTr x6.size c7.size)
   have c07:Chg [b4,b,mb] w w7:=(c05.trans (Chg.trans x6 c7)).mono (by simp)
   clear x6 c7 c05 a5 h15 r15 r45 own5 S5 z1 z3 z4
   repeat (first|refine zg (fun w8 x8=>?_)|refine zG (d:=some 59) (E:=lkR) (l:=cG ch.bs) rfl (SlR.ext sl7 (by exact fx)) ?_|refine aWi (d:=some 60) (n:=(cG ch.bs).length) rfl (by omega) (by omega) ?_|(rw [show (cG ch.bs).length - 1=n by omega];refine bOd (d:=some 61) (b:=bl) (len:=(cG ch.bs).length) (cap:=cap) (n:=n) rfl rfl (by omega) ?_)|(first|refine go2 ?_|fail)|refine aKf ?_)
   refine bC (b:=c) (o:=1) (cur:=aRt b (.slice (some ⟨bl,0,none⟩) (cG ch.bs).length cap) ch.top) rfl rfl rfl (h17.ext x8) (Nat.le_of_ble_eq_true rfl) (fun w9 c9 a9=>?_)
   have r49:=Row.of_at ((At.ext x8 a7).chg c9 (by simp;omega))
   repeat (first|(first|refine go2 ?_|fail)|refine aKf ?_)
   have own9:=((own7.ext x8).step c9 (M':= [c,b,mb]++U) (fun y hy=>by
    simp at hy;subst hy
    exact ⟨by simp [aC];omega,.inl (by simp)⟩) (fun y hy=>.inl hy)).cut (n:=n) (by omega)
   rw [e0,e1,en]
   refine aA rfl ⟨tv, [c,b,mb]++ [bl],rfl,⟨b,mb,.slice (some ⟨bl,0,none⟩) n cap,a9,?_,?_,rfl,g1,g2,g3,g4,g5,g6,fun y hy=>g8 y (hin y (by simp at hy ⊢;omega))⟩,fun y hy=>hin y (by simp at hy ⊢;omega),?_,fun _=>?_,fun q=>absurd rfl q⟩
   ·rw [bAi (by omega)]
    exact (S7.ext x8).chg c9 (by simp;omega) (by simp;omega)
   ·rw [aZf (by omega)]
    exact own9
   ·refine ((c07.trans x8).trans c9).mono fun y hy=>?_
    simp at hy
    rcases hy with rfl|rfl|rfl|rfl
    ·exact .inr (by omega)
    ·exact .inl hbM
    ·exact .inl hmM
    ·exact .inl hcM
   ·exact (z17.ext x8).step c9 (fun y hy=>.inl (by simp at hy;subst hy;simp)) (fun y hy=>.inl (by
     simp at hy ⊢
     rcases hy with h|h|h|h|h<;>simp [h]))
end Go.Proofs.YteceapipdhnhdaaGreatDoor
end
namespace Go.Proofs.YteceapipdhnhdaaGreatDoor
section
open Go Go.K
attribute [local irreducible] aH aM aY KOp.wp K.Spec u32 leS vnS str aP aG aX bK idT aQ EtR
theorem aPi.errR {w:World} {v:Value} {c a i:Int} (h:aPi w v c a i) (h0:c=0→a= -1):dD w 2 v c a:=by
 rcases h with ⟨h1,h2⟩|⟨h1,⟨h2,h3, -⟩|⟨h2,b,u,h3,h4,h5⟩⟩
 ·subst h1;subst h2;rw [h0 rfl];exact dD.none_ _ _
 ·subst h2;rw [h3];exact dD.num _ _ h1
 ·exact .inr ⟨h1,h2,b,u,i,h3,h4,h5⟩
end
section
open Go Go.K
attribute [local irreducible] aH aM aY KOp.wp K.Spec u32 leS vnS str aP aG aX bK idT aQ
set_option maxHeartbeats 1000000 in
theorem bDb {M:List Nat} {v:Value} {outs:List TOut} (h:Int) (w:World) (hh:0≤h∧h≤1000000) (ho:SlR gF M w v outs) (hn:outs.length≤1000) (hM:∀y∈M,y<w.heap.size):K.Spec Tryz.prog F.tx_Grant [.int .i64 h,v] w fun r w'=>∃cs,r=.agg cs.toArray∧txO w.heap.size M w' cs (grT h outs)∧Ext w w':=by
 have ew:IntKind.u32.wrap h=h:=by show h%4294967296=h;omega
 refine bB8 rfl ?_
 unfold aNk
 refine oy ?_
 repeat (first|refine zH (d:=some 4) (fun b4 w1 x1 a1 hb4=>?_)|(refine zC (d:=some 5) rfl (aKb _) ?_;rintro _ w2 ⟨rfl,x2⟩)|refine aZ (d:=some 6) (cs:=fS ⟨uZ,4294967295, []⟩ (.slice none 0 0)) rfl ?_|refine zI (d:=some 7) (cs:=fS ⟨uZ,4294967295, []⟩ (.slice none 0 0)) rfl (fun b7 w3 x3 a3 hb7=>?_)|(refine zC (d:=some 9) rfl (aLx (M:=b4::b7::M) _ (ho.step (show Ext w _ by exact fx) (by simp) (fun y hy=>by simp only [List.mem_cons] at hy;rcases hy with rfl|rfl|hy;exact .inr hb4;exact .inr (by have:=Ext.size (show Ext w w2 by exact fx);omega);exact .inl hy)) (by omega) (fun y hy=>by simp only [List.mem_cons] at hy;rcases hy with rfl|rfl|hy;exact nLt a1.lt (Ext.size (by exact fx));exact a3.lt;exact nLt (hM y hy) (Ext.size (show Ext w w3 by exact fx)))) ?_;rintro ov w4 ⟨oo,x4⟩;obtain ⟨q1,q2,eov⟩:∃base cap,ov=.slice base outs.length cap:=(oo.sl (fun y hy hv=>by have:=oo.base y hv;simp only [List.mem_cons] at hy;rcases hy with rfl|rfl|hy;have:=a1.lt;have:=Ext.size (show Ext w1 w3 by exact fx);omega;have:=a3.lt;omega;have:=hM y hy;have:=Ext.size (show Ext w w3 by exact fx);omega)).form)|(rw [ew];refine aZ (d:=some 12) (cs:=aK (grT h outs) (.slice (some ⟨b7,0,none⟩) 1 1) ov) (by rw [eov];rfl) ?_)|(first|refine go2 ?_|fail))
 have x04:Ext w w4:=by exact fx
 have s03:=Ext.size (show Ext w w3 by exact fx)
 have s02:=Ext.size (show Ext w w2 by exact fx)
 have l3:=a3.lt
 refine aW (w0:=w) (n:=4) (vs:=aK (grT h outs) (.slice (some ⟨b7,0,none⟩) 1 1) ov) x04 hb4 (At.ext x4 (At.ext x3 (At.ext x2 a1))) rfl rfl rfl rfl (by rw [eov];rfl) (fun w5 x5 c5 a5 r5=>?_)
 repeat (first|refine go2 ?_|fail)
 have hb74:b7≠b4:=by have:=a1.lt;have:=x2.size;omega
 have oib:bH inR T.api_In w.heap.size M w5 (.slice (some ⟨b7,0,none⟩) 1 1) [⟨uZ,4294967295, []⟩]:=
  ⟨[⟨fS ⟨uZ,4294967295, []⟩ (.slice none 0 0),rfl,by intro v hv;simp [fS] at hv;rcases hv with rfl|rfl|rfl|rfl<;>rfl⟩],.inr ⟨b7,1, [],rfl,by omega,(a3.ext x4).chg c5 (by simp;omega),rfl⟩,.cons ⟨_,rfl,SlR.nil _ _,⟨by decide,by decide⟩,⟨by decide,by decide⟩⟩ .nil⟩
 have oov:bH gF T.api_Out w.heap.size M w5 ov outs:=(oo.lower s03).step c5 (M':=M) (fun y hy=>by
  simp at hy;subst hy
  exact ⟨fun h=>by have:=oo.base _ h;have:=a1.lt;have:=Ext.size (show Ext w1 w3 by exact fx);omega,.inl (by simp)⟩) (fun y hy=>.inl (by simp [hy]))
 exact aA (aEo (bA r5 rfl rfl)) ⟨_,rfl,⟨_,_,rfl,oib,oov,(show fN 2 by unfold fN;omega),(show fN h by unfold fN;omega)⟩,x5⟩
end
section
open Go Go.K
attribute [local irreducible] aH aM aY KOp.wp K.Spec u32 leS vnS str aP aG aX bK idT aQ
theorem bE0 {α:Type} {E:R α} {M:List Nat} {w:World} {b:Nat} {t:TypeId} {cs:List Value} {a:α} (h:At w b (.cells cs.toArray t (0,0))) (ha:E.rel (b::M) w cs a) (hb:b∉M):SlR E M w (.slice (some ⟨b,0,none⟩) 1 1) [a]:=by
 have ef:(jM E.k E.pos).flat [R.vec ha]=cs:=by simp only [Enc.flat,List.flatMap_cons,List.flatMap_nil,List.append_nil];rfl
 have o:bH E t 0 M w (.slice (some ⟨b,0,none⟩) 1 1) [a]:=⟨[R.vec ha],.inr ⟨b,1, [],rfl,Nat.zero_le _,by rw [ef,List.append_nil];exact h,by rw [List.append_nil,Enc.flat_length];rfl⟩,.cons ha .nil⟩
 exact o.sl fun b' hb' h'=>by
  simp [aC] at h'
  subst h';exact hb hb'
theorem bOb {B:Nat} {M:List Nat} {w w':World} {cs:List Value} {t:Tx} {b:Nat} (h:txO B M w cs t) (hM:∀y∈M,y<B) (x:Ext w w') (a:At w' b (.cells cs.toArray T.api_Tx (0,0))) (hb:w.heap.size≤b) (hMl:∀y∈M,y<w.heap.size):SlR txR M w' (.slice (some ⟨b,0,none⟩) 1 1) [t]:=by
 have h2:txR.rel (b::M) w' cs t:=txR.step (h.rel hM) x (by simp) (fun y hy=>by simp only [List.mem_cons] at hy;rcases hy with rfl|hy;exact .inr hb;exact .inl hy)
 exact bE0 (E:=txR) a h2 (fun hm=>by have:=hMl _ hm;omega)
end
end Go.Proofs.YteceapipdhnhdaaGreatDoor
