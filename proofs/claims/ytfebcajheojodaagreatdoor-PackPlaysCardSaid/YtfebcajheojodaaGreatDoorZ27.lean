/- Contracts: a copy of a graph; nil graphs. Contracts: a pool, -/
import Derived.Test.YtfebcajheojodaaGreatDoorZ26
set_option linter.unusedVariables false
set_option linter.unusedSimpArgs false
namespace Go.Proofs.YtfebcajheojodaaGreatDoor
section
open Go Go.K
section
attribute [local irreducible] aO aU bQ KOp.wp u32 leS vnS str aV cU cD idT aR aG aX idN bD cF bT
theorem aT8 {mb:Nat} {M:List Nat} {m:List (ByteArray × Ent)} (w:World) (h:nG sK bF M w mb m):K.Spec Tryz.prog F.maps_Clone_map_string_api_Entry_string_api_Entry [.map (some mb)] w fun v w'=>∃mb',v=.map (some mb')∧(∀M',nG sK bF M' w mb m→nG sK bF M' w' mb' m)∧mb'<w'.heap.size∧w.heap.size≤mb'∧Ext w w':=by
 obtain ⟨mv,h1,h2⟩:=h
 obtain ⟨es,clock,h1,h3⟩:=h1
 refine (AnyW.maps_Clone Tryz.cloneMap128 mb es clock w h1).mono fun e w' ⟨he,hw⟩=>⟨_,he,_,rfl,?_⟩
 subst hw
 have hx:=Ext.alloc w (.map es clock)
 refine ⟨fun M' h=>?_,(At.new w (.map es clock)).lt,Nat.le_refl _,hx⟩
 obtain ⟨mv,k1,h2⟩:=h
 obtain ⟨es',clock',k1,h3⟩:=k1
 have e:Obj.map es clock=Obj.map es' clock':=Option.some.inj ((show w.heap[mb]? =some (.map es clock) from h1).symm.trans k1)
 cases e
 exact ⟨mv,⟨es,clock,At.new _ _,h3⟩,h2.mono fun _ _ ⟨e,cs,e2,hr⟩=>⟨e,cs,e2,R.ext hr hx⟩⟩
theorem aU6 {mb:Nat} {m:List (Pt × ByteArray)} (w:World) (h:dW ptK Value.string w mb m):K.Spec Tryz.prog F.maps_Clone_map_api_Point_string_api_Point_string [.map (some mb)] w fun v w'=>∃mb',v=.map (some mb')∧dW ptK Value.string w' mb' m∧w.heap.size≤mb'∧Ext w w':=by
 obtain ⟨es,clock,h1,h2⟩:=h
 refine (AnyW.maps_Clone Tryz.cloneMap130 mb es clock w h1).mono fun e w' ⟨he,hw⟩=>⟨_,he,_,rfl,?_⟩
 subst hw
 exact ⟨⟨es,clock,At.new _ _,h2⟩,Nat.le_refl _,Ext.alloc _ _⟩
end
attribute [local irreducible] aO aU bQ KOp.wp K.Spec u32 leS vnS str aV cU cD idT aR aG aX idN bD cF bT
set_option maxHeartbeats 1000000 in
theorem aP4 {g : Nat} {M : List Nat} {l : List Ent} (w : World) (hG : GrR w g M l) (hM : ∀ b ∈ M, b < w.heap.size) (hn : l.length ≤ 1000) : K.Spec Tryz.prog F.graph_Graph_Copy [.pointer (some ⟨g, 0, none⟩)] w fun r w' =>
    ∃ g' M', r = .pointer (some ⟨g', 0, none⟩) ∧ Gr w' w.heap.size g' M' l ∧ Ext w w' := by
  obtain ⟨b1, vo, b2, m, sp, hP⟩ := hG
  have rg : Row w ⟨g, 0, none⟩ [.map (some b1), vo, .map (some b2)] := Row.of_at hP.at_
  have q1 := hP.ents
  have q2 := hP.pts
  have q3 := hP.ord
  refine aFy rfl ?_
  unfold sW
  refine oy ?_
  repeat' (first|refine go1 ?_|refine zg λ_ _=>?_|refine zi λ_ _=>?_|refine fR ?_ ?_|(refine zC rfl (aT8 (M := M) (m := m) _ (by exact fx)) ?_; rintro _ wa ⟨c1, rfl, p1, la, hc1, xa⟩; have sa := xa.size)|(refine zC rfl (aU6 (m := sp) _ (by exact fx)) ?_; rintro _ wc ⟨c2, rfl, p2, hc2, xc⟩; have lc := p2.lt; have sc := xc.size)|(refine zC rfl (aCk (M := []) (v := vo) (l := l.map (fun x : Ent => x.id)) _ (SlE.toR (F := bO) (ag := false) (SlE.ext (w := w) (by exact fx) q3) (by simp)) (by simp; omega) (by simp)) ?_; rintro v5 wb ⟨o5, xb⟩; have lb := o5.lt; have gb := o5.base; replace o5 := cJ.toOwn o5; have sb := xb.size; obtain ⟨bb, cb, rfl⟩ := o5.sl.form)|refine zD (cs := [.map (some c1), .slice bb (l.map (fun x : Ent => x.id)).length cb, .map (some c2)]) rfl rfl (fun bp wp xp ap rp hp0=>?_))
  all_goals
    rename_i xz
    have s0 := xz.size
    have szp := xp.size
    have lp := ap.lt
    generalize Value.slice bb (l.map (fun x : Ent => x.id)).length cb = v5 at *
    have hmm : ∀ b ∈ dQ bp c1 c2 v5, w.heap.size ≤ b := fun b hb => by
      simp only [List.mem_cons] at hb
      rcases hb with rfl | rfl | rfl | hb
      · omega
      · omega
      · omega
      · have := gb b hb; omega
    refine aC rfl ⟨bp, _, rfl, ⟨c1, v5, c2, m, sp, ⟨ap, ?_, by exact fx, ?_, hP.inv, ?_, by omega, by omega, by omega⟩, rfl⟩, by exact fx⟩
    · exact (p1 _ (q1.step (show Ext w _ by exact fx) (by simp) (by simp) (fun b hb => .inr (hmm b hb)))).ext (by exact fx)
    · exact Own.lower (Own.ext (by exact fx) o5) (by omega)
    · have n5 : (aP v5).Nodup := by cases v5 <;> try exact List.nodup_nil
                                    rename_i b _ _; cases b <;> simp [aP]
      have : ∀ b ∈ aP v5, b ≠ bp ∧ b ≠ c1 ∧ b ≠ c2 := fun b hb => by have := gb b hb; have := lb b hb; omega
      simp only [List.nodup_cons, List.mem_cons, not_or]
      exact ⟨⟨by omega, by omega, fun h => (this _ h).1 rfl⟩, ⟨by omega, fun h => (this _ h).2.1 rfl⟩, fun h => (this _ h).2.2 rfl, n5⟩
end
section
open Go Go.K
attribute [local irreducible] aO aU bQ KOp.wp K.Spec u32 leS vnS str aV cU cD idT aR aG aX idN bD cF bT bH cA cO aZ bA aM iC dT pD lH bC evL inS inB iG fH dN fY gE gP eQ cH dF eY fL cB bS
abbrev aMf (v:Value) (h rate:Int):Value:=.agg #[v,.int .i64 h,.int .i64 rate]
section
variable {f:Pt→Option Cn} {l:List Ent} {t:Tx} {h:Int}
theorem aKb (hc:aG t≠0):aY f l t h=(0,aG t, -1):=by unfold aY;rw [if_pos hc]
theorem aCl (hc:aG t=0) (hh:dO l (idT t)=true):aY f l t h=(0,7, -1):=by unfold aY;rw [if_neg (by simpa using hc),if_pos hh]
theorem aEa (hc:aG t=0) (hh:dO l (idT t)=false) (hf:(eY (dP f l h) t h).2.1≠0):aY f l t h=(0,(eY (dP f l h) t h).2):=by
 unfold aY;rw [if_neg (by simpa using hc),if_neg (by rw [hh];simp),if_pos hf]
theorem aJp (hc:aG t=0) (hh:dO l (idT t)=false) (hf:(eY (dP f l h) t h).2.1=0):aY f l t h=if 0≤fL t then (0,13,fL t) else ((eY (dP f l h) t h).1,0, -1):=by
 unfold aY;rw [if_neg (by simpa using hc),if_neg (by rw [hh];simp),if_neg (by simpa using hf)]
end
set_option maxHeartbeats 4000000 in
theorem aG2 {g:Nat} {M N:List Nat} {l:List Ent} {cs:List Value} {t:Tx} {v:Value} {f:Pt→Option Cn} (h rate:Int) (w:World) (hG:GrR w g M l) (hM:∀b∈M,b<w.heap.size) (hV:lE w v f) (ht:txR.rel N w cs t) (hs:t.Sm):
  K.Spec Tryz.prog F.pool_Plain [.pointer (some ⟨g,0,none⟩),.agg cs.toArray,aMf v h rate] w fun r w'=>∃e,r=.tuple #[.int .i64 (aY f l t h).1,e]∧eJ w' 1 e (aY f l t h).2.1 (aY f l t h).2.2∧Ext w w':=by
 have ht0:=ht
 obtain ⟨iv,ov,rfl,hi,ho,hv⟩:=ht
 obtain ⟨vt,vu,rfl⟩:∃vt vu,v=.iface vt vu:=by obtain ⟨⟨a,b,e,_⟩,_⟩:=hV;exact ⟨a,b,e⟩
 refine aTq rfl ?_
 unfold aHo
 refine oy ?_
 by_cases hc:aG t=0
 ·have hq:∀y∈t.outs,y.s.size≤1000000:=fun y hy=>by have:=(bI hs hc).scr y hy;omega
  repeat (first|refine zD (d:=some 4) rfl rfl (fun bt wt xt bt' (rt:Row wt ⟨bt,0,none⟩ (aK t iv ov)) hbt0=>?_)|refine zD (d:=some 5) (cs:= [.iface vt vu,.int .i64 h,.int .i64 rate]) rfl rfl (fun bs ws xs bs' (rs:Row ws ⟨bs,0,none⟩ [.iface vt vu,.int .i64 h,.int .i64 rate]) hbs0=>?_)|(refine zC (d:=some 26) rfl (aDn (M:=N) _ (cs:=aK t iv ov) (R.ext ht0 (by exact fx)) hs) ?_;rintro _ w5 ⟨rfl,x5⟩;rw [idV,if_pos hc])|(refine zC (d:=some 36) rfl (nR (M:=M) (l:=l) (idT t) _ (hG.ext (by exact fx)) (fun b hb=>nLt (hM b hb) (Ext.size (by exact fx)))) ?_;rintro _ w6 ⟨ds,rfl,⟨iv6,ov6,rfl,o1,o2,o3⟩,x6⟩;have e1:=o1.one;have e2:=o2.one)|(refine zE (d':=10) (fun _=>rfl) rfl rfl (by show (bN (dR l (idT t)) iv6 ov6).all _=true;simp [bN,e1,e2];exact ⟨rfl,rfl,rfl,rfl,rfl⟩) (fun b7 w7 x7 a7 (r7:Row w7 ⟨b7,0,none⟩ (bN (dR l (idT t)) iv6 ov6)) hb7=>?_))|refine go1 ?_|refine zg λ_ _=>?_|refine zi λ_ _=>?_)
  have rt7:Row w7 ⟨bt,0,none⟩ (aK t iv ov):=rt.ext (by exact fx)
  have rs7:Row w7 ⟨bs,0,none⟩ [.iface vt vu,.int .i64 h,.int .i64 rate]:=rs.ext (by exact fx)
  have x07:Ext w w7:=by exact fx
  have G7:=hG.ext x07
  have hM7:∀b∈M,b<w7.heap.size:=fun b hb=>nLt (hM b hb) x07.size
  have V7:=hV.ext x07
  have t7:=R.ext ht0 x07
  have x70:Unit→Ext w w7:=fun _=>x07
  clear x07 o1 o2 o3 r7 x7 x6 x5 xs xt rt rs
  cases hh:dO l (idT t) with
  |true=>
   rw [aCl hc hh]
   repeat' (first|refine go1 ?_|refine zg λ_ _=>?_|refine zi λ_ _=>?_)
   exact aC rfl ⟨_,rfl,eJ.num _ _ (by decide),Ext.trans (x70 ()) (by exact fx)⟩
  |false=>
   have step:∀w8,Ext w7 w8→K.Spec Tryz.prog F.check_Fee [bCp (.iface vt vu) (.pointer (some ⟨g,0,none⟩)) h,.agg (aK t iv ov).toArray,.int .i64 h] w8 fun r w'=>∃e,r=.tuple #[.int .i64 (eY (dP f l h) t h).1,e]∧eJ w' 1 e (eY (dP f l h) t h).2.1 (eY (dP f l h) t h).2.2∧Ext w8 w':=fun w8 x8=>
    bIy (M:=N) h w8 (bEb h (V7.ext x8) (G7.ext x8) (fun b hb=>nLt (hM7 b hb) x8.size)) (R.ext t7 x8) hs
   repeat' (first|refine zg (fun w8 x8=>?_)|refine fR ?_ ?_|(refine zC (d:=some 47) rfl (bB7 vt vu (some ⟨g,0,none⟩) h _) ?_;rintro _ w9 ⟨rfl,x9⟩)|refine jA (b:=.cons ⟨some 51,_,_⟩ _) (fun (_:Unit) w'=>Ext w7 w') (fun _=> [(4,.pointer (some ⟨bt,0,none⟩)),(47,bCp (.iface vt vu) (.pointer (some ⟨g,0,none⟩)) h),(48,.agg (aK t iv ov).toArray),(50,.int .i64 h)]) ?_ ?_|(rintro _ ρ7 w10 x10;try dsimp only)|(exact ⟨(),⟨rfl,rfl,rfl,rfl,trivial⟩,by exact fx⟩)|refine go1 ?_|refine zg λ_ _=>?_|refine zi λ_ _=>?_)
   refine zC (d:=some 51) rfl (step _ x10) ?_
   rintro _ w11 ⟨e,rfl,he,x11⟩
   obtain ⟨hn1,hn2⟩:=he.nil_iff
   clear x8
   by_cases hf:(eY (dP f l h) t h).2.1=0
   ·obtain ⟨rfl,hp⟩:=hn1 hf
    rw [aJp hc hh hf]
    by_cases hd:0≤fL t
    ·rw [if_pos hd]
     repeat' (first|(refine zC (d:=some 59) rfl (aPb (M:=N) (t:=t) (cs:=aK t iv ov) _ (R.ext t7 (by exact fx)) hs hq) ?_;rintro _ w12 ⟨rfl,x12⟩;rw [Int.max_eq_left hd])|refine zL (x:=.tmp 62) (p:=fL t≥0) rfl (fun _=>?_) (fun q=>absurd hd q)|refine bL (d:=some 65) (cs:= [.int .i64 (fL t),aFi 13]) rfl ?_|refine zD (d:=some 66) (cs:= [.int .i64 (fL t),aFi 13]) rfl rfl (fun b13 w13 x13 a13 r13 hb13=>?_)|refine go1 ?_|refine zg λ_ _=>?_|refine zi λ_ _=>?_)
     exact aC rfl ⟨_,rfl,.inr ⟨(show (13:Int)≠0 by decide),hd,b13,_, -1,rfl,a13,eJ.num _ _ (by decide)⟩,Ext.trans (x70 ()) (by exact fx)⟩
    ·rw [if_neg hd]
     repeat' (first|(refine zC (d:=some 59) rfl (aPb (M:=N) (t:=t) (cs:=aK t iv ov) _ (R.ext t7 (by exact fx)) hs hq) ?_;rintro _ w12 ⟨rfl,x12⟩)|refine zL (x:=.tmp 62) (p:=fL t≥0) rfl (fun q=>absurd q hd) (fun _=>?_)|refine go1 ?_|refine zg λ_ _=>?_|refine zi λ_ _=>?_)
     exact aC rfl ⟨_,rfl,eJ.none_ _ _,Ext.trans (x70 ()) (by exact fx)⟩
   ·obtain ⟨et,eu,rfl⟩:=hn2 hf
    rw [aEa hc hh hf]
    repeat' (first|refine go1 ?_|refine zg λ_ _=>?_|refine zi λ_ _=>?_)
    exact aC rfl ⟨_,rfl,he.ext (by exact fx),Ext.trans (x70 ()) (by exact fx)⟩
 ·rw [aKb hc]
  repeat' (first|refine zD (d:=some 4) rfl rfl (fun bt wt xt bt' (rt:Row wt ⟨bt,0,none⟩ (aK t iv ov)) hbt0=>?_)|refine zD (d:=some 5) (cs:= [.iface vt vu,.int .i64 h,.int .i64 rate]) rfl rfl (fun bs ws xs bs' (rs:Row ws ⟨bs,0,none⟩ [.iface vt vu,.int .i64 h,.int .i64 rate]) hbs0=>?_)|(refine zC (d:=some 26) rfl (aDn (M:=N) _ (cs:=aK t iv ov) (R.ext ht0 (by exact fx)) hs) ?_;rintro _ w5 ⟨rfl,x5⟩;rw [idV,if_neg hc])|refine zN (p:=aG t=0) rfl (fun _=>?_) (fun h=>absurd h hc)|refine go1 ?_|refine zg λ_ _=>?_|refine zi λ_ _=>?_)
  exact aC rfl ⟨_,rfl,eJ.num _ _ hc,by exact fx⟩
end
section
open Go Go.K
attribute [local irreducible] aO aU bQ KOp.wp K.Spec u32 leS vnS str aV cU cD idT aR aG aX idN bD cF bT bH cA cO aZ bA aM iC dT pD lH bC evL inS inB iG fH dN fY gE gP eQ cH dF eY fL cB bS aY bU
theorem bA5 (v:Value) (hv:v.oneCell'=true) (h rate:Int) (size:Nat) (hs:size≤1000000) (w:World):K.Spec Tryz.prog F.pool_Terms_asked [aMf v h rate,.int .i64 (size:Nat)] w fun r w'=>r=.int .i64 (dA rate size)∧Ext w w':=by
 obtain ⟨R,hR⟩:∃R:Nat,min (max rate 1000) 100000000=(R:Int):=⟨(min (max rate 1000) 100000000).toNat,by omega⟩
 have hR2:R≤100000000:=by omega
 have e:dA rate size=(((R*size+999) / 1000:Nat):Int):=by unfold dA;rw [hR];rfl
 rw [e]
 refine aGl rfl ?_
 unfold tI
 refine oy ?_
 repeat' (first|refine zD (d:=some 2) (cs:= [v,.int .i64 h,.int .i64 rate]) rfl rfl (fun bs ws xs bs' (rs:Row ws ⟨bs,0,none⟩ [v,.int .i64 h,.int .i64 rate]) hbs0=>?_)|refine rH (d:=some 10) (a:=rate) (b:=1000) rfl rfl ?_|(refine aUf (d:=some 11) (a:=max rate 1000) (b:=100000000) rfl rfl ?_;rw [hR])|(refine zC (d:=some 13) rfl (aDt R size hR2 hs _) ?_;rintro _ w3 ⟨rfl,x3⟩)|refine go1 ?_|refine zg λ_ _=>?_|refine zi λ_ _=>?_)
 exact aC rfl ⟨rfl,by exact fx⟩
set_option maxHeartbeats 1000000 in
theorem aT6 {g:Nat} {M:List Nat} {l:List Ent} {v:Value} {ids:List ByteArray} (w:World) (hG:GrR w g M l) (hM:∀b∈M,b<w.heap.size) (hn:l.length≤1000) (hi:SlE bO w v ids) (hl:ids.length≤1000):K.Spec Tryz.prog F.pool_without [.pointer (some ⟨g,0,none⟩),v] w fun r w'=>
  ∃g' M',r=.pointer (some ⟨g',0,none⟩)∧Gr w' w.heap.size g' M' (bU l ids)∧Ext w w':=by
 have d0:bU l (ids.take 0)=l:=by unfold bU;rfl
 refine aNu rfl ?_
 unfold aBt
 refine oy ?_
 repeat (first|(refine zC (d:=some 9) rfl (aP4 (M:=M) (l:=l) _ hG hM hn) ?_;rintro _ w1 ⟨g1,M1,rfl,G1,x1⟩)|refine bY (d:=some 11) (E:=bO) (l:=ids) rfl (SlE.ext (w:=w) (by exact fx) hi) ?_|(refine aQ (fun (p:Nat × List Nat) w'=>Ext w w'∧p.1≤ids.length∧Gr w' w.heap.size g1 p.2 (bU l (ids.take p.1))∧(bU l (ids.take p.1)).length≤1000) (fun p=> [(5,.pointer (some ⟨g1,0,none⟩)),(10,v),(11,.int .i64 (ids.length:Nat)),(12,.int .i64 (p.1:Nat))]) (fun p=>ids.length - p.1) (0,M1) ⟨rfl,rfl,rfl,rfl,trivial⟩ ⟨x1,by simp,by rw [d0];exact G1,by rw [d0];exact hn⟩ ?_;rintro ⟨i,Mi⟩ ρ w3 ⟨x3,hil,hg,hlen⟩;simp only at hil hg hlen;dsimp only)|refine go1 ?_|refine zg λ_ _=>?_|refine zi λ_ _=>?_)
 refine zL (p:=((i:Nat):Int)<((ids.length:Nat):Int)) rfl (fun h=>?_) (fun h=>?_)
 ·have hii:i<ids.length:=by omega
  repeat' (first|(refine aT (d:=some 14) (E:=bO) rfl rfl (n:=i) (l:=ids) (hi.ext x3) rfl hii (fun ad r5=>?_);have r5:Row w3 ad [Value.string ids[i]]:=r5)|(refine zC (d:=some 18) rfl (aZx (l:=bU l (ids.take i)) ids[i] _ hg hlen) ?_;rintro _ w4 ⟨M4,rfl,g4,c4,m4⟩)|refine go1 ?_|refine zg λ_ _=>?_|refine zi λ_ _=>?_)
  have hb:=Gr.base hg
  refine ⟨(i+1,M4),⟨rfl,rfl,rfl,rfl,trivial⟩,⟨(x3.chg c4).mono (fun b hb2=>.inr (hb b hb2)),hii,by show Gr w4 w.heap.size g1 M4 (bU l (ids.take (i+1)));rw [aAh hii];exact g4,?_⟩,by show ids.length - (i+1)<ids.length - i;omega⟩
  show (bU l (ids.take (i+1))).length≤1000
  rw [aAh hii]
  exact nTr (by
   unfold cA
   split
   ·exact Nat.le_refl _
   ·exact List.length_eraseIdx_le ..) hlen
 ·repeat' (first|refine go1 ?_|refine zg λ_ _=>?_|refine zi λ_ _=>?_)
  rw [tLe (by omega)] at hg
  exact aC rfl ⟨g1,Mi,rfl,hg,x3⟩
end
section
open Go Go.K
section
attribute [local irreducible] aG aX inE fX kB values
theorem bIw {f:Pt→Option Cn} {t:Tx} {h:Int} (hc:aG t=0) (h0:(eY f t h).2.1=0):aX t=false∧bX (eY f t h).1=true:=by
 cases hg:aX t with
 |true=>rw [aEg hc hg] at h0;exact absurd h0 (show ¬(4:Int)=0 by decide)
 |false=>
  refine ⟨rfl,?_⟩
  by_cases hk:∀j,∀hj:j<t.ins.length,inE f t h t.ins[j]=0
  ·rw [aNn hc hg hk] at h0 ⊢
   by_cases h1:kB (t.ins.map (inV f))=0
   ·rw [if_neg (show ¬kB (t.ins.map (inV f))≠0 from fun q=>q h1)] at h0 ⊢
    by_cases h2:fX (values t)>fX (t.ins.map (inV f))
    ·rw [if_pos h2] at h0;exact absurd h0 (show ¬(12:Int)=0 by decide)
    ·rw [if_neg h2]
     have g1:=(bG _).1 (sG h1)
     have g2:=(bG _).1 (sG (pM hc))
     exact (bG _).2 (by show 0≤fX (t.ins.map (inV f)) - fX (values t)∧fX (t.ins.map (inV f)) - fX (values t)≤2100000000000000;omega)
   ·rw [if_pos (show kB (t.ins.map (inV f))≠0 from h1)] at h0;exact absurd h0 h1
  ·exfalso
   have:∃i,(t.ins.findIdx? fun x=>decide (inE f t h x≠0))=some i:=by
    cases hq:t.ins.findIdx? fun x=>decide (inE f t h x≠0) with
    |some i=>exact ⟨i,rfl⟩
    |none=>
     refine absurd (fun j hj=>?_) hk
     have:=List.findIdx?_eq_none_iff.1 hq _ (gMe hj)
     simpa using this
   obtain ⟨i,hi⟩:=this
   obtain ⟨h1,h2,h3⟩:=List.findIdx?_eq_some_iff_getElem.1 hi
   have he:inE f t h t.ins[i]≠0:=of_decide_eq_true h2
   rw [aVe hc hg h1 (fun j hj hjl=>by have:=h3 j hj;simpa using this) he] at h0
   exact he h0
theorem eI {f:Pt→Option Cn} {l:List Ent} {t:Tx} {h:Int} (h0:(aY f l t h).2.1=0):aG t=0∧aX t=false∧dO l (idT t)=false∧bX (aY f l t h).1=true:=by
 by_cases hc:aG t=0
 ·cases hh:dO l (idT t) with
  |true=>rw [aCl hc hh] at h0;exact absurd h0 (show ¬(7:Int)=0 by decide)
  |false=>
   by_cases hf:(eY (dP f l h) t h).2.1=0
   ·obtain ⟨g1,g2⟩:=bIw hc hf
    refine ⟨hc,g1,rfl,?_⟩
    rw [aJp hc hh hf] at h0 ⊢
    by_cases hd:0≤fL t
    ·rw [if_pos hd] at h0;exact absurd h0 (show ¬(13:Int)=0 by decide)
    ·rw [if_neg hd];exact g2
   ·rw [aEa hc hh hf] at h0;exact absurd h0 hf
 ·rw [aKb hc] at h0;exact absurd h0 hc
end
section
variable {f:Pt→Option Cn} {l:List Ent} {t:Tx} {h rate:Int}
theorem aK1 (h0:(aY f l t h).2.1≠0):eO f l t h rate=(aY f l t h).2∧eD f l t h rate= []∧kD f l t h rate=l:=by
 have e:eO f l t h rate=(aY f l t h).2:=by unfold eO;rw [if_pos h0]
 refine ⟨e,?_,?_⟩
 ·unfold eD;rw [e,if_neg h0]
 ·unfold kD;rw [e,if_neg h0]
theorem aVh {c:Int} (hc:c≠0) (e:eO f l t h rate=(c, -1)):eD f l t h rate= []∧kD f l t h rate=l:=by
 refine ⟨?_,?_⟩
 ·unfold eD;rw [e,if_neg (show ¬c=0 from hc)]
 ·unfold kD;rw [e,if_neg (show ¬c=0 from hc)]
theorem aVp (h0:(aY f l t h).2.1=0) (h1:(aY f l t h).1<dA rate (aR t)):eO f l t h rate=(11, -1):=by
 unfold eO;rw [if_neg (show ¬(aY f l t h).2.1≠0 from fun q=>q h0),if_pos h1]
theorem aLb (h0:(aY f l t h).2.1=0) (h1:¬(aY f l t h).1<dA rate (aR t)) (h2:cH l t (aY f l t h).1≠0):eO f l t h rate=(cH l t (aY f l t h).1, -1):=by
 unfold eO;rw [if_neg (show ¬(aY f l t h).2.1≠0 from fun q=>q h0),if_neg h1,if_pos h2]
theorem aOn (h0:(aY f l t h).2.1=0) (h1:¬(aY f l t h).1<dA rate (aR t)) (h2:cH l t (aY f l t h).1=0) (h3:dF (qI l t) t≠0):eO f l t h rate=(dF (qI l t) t, -1):=by
 unfold eO;rw [if_neg (show ¬(aY f l t h).2.1≠0 from fun q=>q h0),if_neg h1,if_neg (show ¬cH l t (aY f l t h).1≠0 from fun q=>q h2),if_pos h3]
theorem bBh (h0:(aY f l t h).2.1=0) (h1:¬(aY f l t h).1<dA rate (aR t)) (h2:cH l t (aY f l t h).1=0) (h3:dF (qI l t) t=0):
  eO f l t h rate=(0, -1)∧eD f l t h rate=aM l (evL l t)∧kD f l t h rate=(cO (qI l t) t (aY f l t h).1).1:=by
 have e:eO f l t h rate=(0, -1):=by
  unfold eO
  rw [if_neg (show ¬(aY f l t h).2.1≠0 from fun q=>q h0),if_neg h1,if_neg (show ¬cH l t (aY f l t h).1≠0 from fun q=>q h2),if_neg (show ¬dF (qI l t) t≠0 from fun q=>q h3)]
 refine ⟨e,?_,?_⟩
 ·unfold eD;rw [e,if_pos rfl]
 ·unfold kD;rw [e,if_pos rfl]
end
theorem bDm (l:List Ent) (s:ByteArray):(cA l s).1.length≤l.length:=by
 unfold cA
 split
 ·exact Nat.le_refl _
 ·exact List.length_eraseIdx_le ..
theorem wA:∀(ids:List ByteArray) (l:List Ent),(bU l ids).length≤l.length
 | [],l=>Nat.le_refl _
 |s::ids,l=>nTr (wA ids (cA l s).1) (bDm l s)
end
end Go.Proofs.YtfebcajheojodaaGreatDoor
namespace Go.K
section
open Go Go.Proofs.YtfebcajheojodaaGreatDoor
section
variable {f:Pt→Option Cn} {l:List Ent} {t:Tx} {h rate:Int}
theorem aHp (h0:(eO f l t h rate).1=0):(aY f l t h).2.1=0∧dA rate (aR t)≤(aY f l t h).1∧cH l t (aY f l t h).1=0∧dF (qI l t) t=0:=by
 by_cases h1:(aY f l t h).2.1=0
 ·by_cases h2:(aY f l t h).1<dA rate (aR t)
  ·rw [aVp h1 h2] at h0;exact absurd h0 (show ¬(11:Int)=0 by decide)
  ·by_cases h3:cH l t (aY f l t h).1=0
   ·by_cases h4:dF (qI l t) t=0
    ·exact ⟨h1,by omega,h3,h4⟩
    ·rw [aOn h1 h2 h3 h4] at h0;exact absurd h0 h4
   ·rw [aLb h1 h2 h3] at h0;exact absurd h0 h3
 ·rw [(aK1 h1).1] at h0;exact absurd h0 h1
theorem nO (h0:(eO f l t h rate).1≠0):eD f l t h rate= []∧kD f l t h rate=l:=by
 unfold eD kD
 rw [if_neg h0,if_neg h0];exact ⟨rfl,rfl⟩
theorem vZ {f:Int} (h:(cO l t f).2=0):(cO l t f).1=l++ [⟨t,idT t,f,(aR t:Nat)⟩]:=by
 unfold cO at h ⊢
 split
 ·rename_i a;rw [if_pos a] at h;exact absurd h a
 rename_i a;rw [if_neg a] at h
 split
 ·rename_i a;rw [if_pos a] at h;exact absurd h (show ¬(4:Int)=0 by decide)
 rename_i a;rw [if_neg a] at h
 split
 ·rename_i a;rw [if_pos a] at h;exact absurd h (show ¬(3:Int)=0 by decide)
 rename_i a;rw [if_neg a] at h
 split
 ·rename_i a;rw [if_pos a] at h;exact absurd h (show ¬(7:Int)=0 by decide)
 rename_i a;rw [if_neg a] at h
 split
 ·rename_i a;rw [if_pos a] at h;exact absurd h (show ¬(15:Int)=0 by decide)
 ·rfl
abbrev jY (t:Tx) (fee:Int):Ent:=⟨t,idT t,fee,(aR t:Nat)⟩
theorem aUx (hn:(l.map (·.id)).Nodup) (h0:(eO f l t h rate).1=0):eD f l t h rate=aM l (evL l t)∧qI l t=dC l (evL l t)∧kD f l t h rate=dC l (evL l t)++ [jY t (aY f l t h).1]:=by
 obtain ⟨h1,h2,h3,h4⟩:=aHp h0
 obtain ⟨hc,hg,hh,hgd⟩:=eI h1
 obtain ⟨-,e2,e3⟩:=bBh (rate:=rate) h1 (by omega) h3 h4
 have er:qI l t=dC l (evL l t):=by unfold qI;exact aAr _ _ hn
 refine ⟨e2,er,?_⟩
 rw [e3,er]
 obtain ⟨hi, -⟩:=aGb hc
 refine vZ ?_
 rcases bF0 (f:=(aY f l t h).1) hn hc hi hg hgd with h5|⟨-,h6, -⟩
 ·exact h5
 ·obtain ⟨x,hx,e⟩:=aD2.1 h6
  have:dO l (idT t)=true:=aD2.2 ⟨x,(gR _ _).subset hx,e⟩
  rw [hh] at this;cases this
theorem bC2 (hn:(l.map (·.id)).Nodup) (h0:(eO f l t h rate).1=0):(kD f l t h rate).length+(eD f l t h rate).length=l.length+1:=by
 obtain ⟨e1, -,e2⟩:=aUx hn h0
 have:=aTd l (evL l t)
 rw [e1,e2,List.length_append,List.length_singleton];omega
theorem bG0 (hn:(l.map (·.id)).Nodup):(kD f l t h rate).length≤l.length+1:=by
 by_cases h0:(eO f l t h rate).1=0
 ·have:=bC2 (f:=f) (h:=h) (rate:=rate) hn h0;omega
 ·rw [(nO h0).2];omega
theorem bC7 (hc:aG t=0) (h0:(eY f t h).2.1=0):(∀x∈t.ins,(f x.p).isSome=true)∧kB (t.ins.map (inV f))=0∧(eY f t h).1=fX (t.ins.map (inV f)) - fX (values t):=by
 cases hg:aX t with
 |true=>rw [aEg hc hg] at h0;exact absurd h0 (show ¬(4:Int)=0 by decide)
 |false=>
  by_cases hk:∀j,∀hj:j<t.ins.length,inE f t h t.ins[j]=0
  ·refine ⟨fun x hx=>?_,?_⟩
   ·obtain ⟨j,hj,rfl⟩:=List.getElem_of_mem hx
    have:=hk j hj
    unfold inE at this
    cases hf:f t.ins[j].p with
    |none=>rw [hf] at this;exact absurd this (show ¬(8:Int)=0 by decide)
    |some c=>rfl
   ·rw [aNn hc hg hk] at h0 ⊢
    by_cases h1:kB (t.ins.map (inV f))=0
    ·rw [if_neg (show ¬kB (t.ins.map (inV f))≠0 from fun q=>q h1)] at h0 ⊢
     by_cases h2:fX (values t)>fX (t.ins.map (inV f))
     ·rw [if_pos h2] at h0;exact absurd h0 (show ¬(12:Int)=0 by decide)
     ·rw [if_neg h2];exact ⟨h1,rfl⟩
    ·rw [if_pos (show kB (t.ins.map (inV f))≠0 from h1)] at h0;exact absurd h0 h1
  ·exfalso
   have:∃i,(t.ins.findIdx? fun x=>decide (inE f t h x≠0))=some i:=by
    cases hq:t.ins.findIdx? fun x=>decide (inE f t h x≠0) with
    |some i=>exact ⟨i,rfl⟩
    |none=>
     refine absurd (fun j hj=>?_) hk
     have:=List.findIdx?_eq_none_iff.1 hq _ (gMe hj)
     simpa using this
   obtain ⟨i,hi⟩:=this
   obtain ⟨h1,h2,h3⟩:=List.findIdx?_eq_some_iff_getElem.1 hi
   have he:inE f t h t.ins[i]≠0:=of_decide_eq_true h2
   rw [aVe hc hg h1 (fun j hj hjl=>by have:=h3 j hj;simpa using this) he] at h0
   exact he h0
theorem aN4 (h0:(aY f l t h).2.1=0):(eY (dP f l h) t h).2.1=0∧(aY f l t h).1=(eY (dP f l h) t h).1:=by
 obtain ⟨hc, -,hh, -⟩:=eI h0
 by_cases hf:(eY (dP f l h) t h).2.1=0
 ·refine ⟨hf,?_⟩
  rw [aJp hc hh hf] at h0 ⊢
  by_cases hd:0≤fL t
  ·rw [if_pos hd] at h0;exact absurd h0 (show ¬(13:Int)=0 by decide)
  ·rw [if_neg hd]
 ·rw [aEa hc hh hf] at h0;exact absurd h0 hf
end
theorem aTi:∀{l:List Pt},wT l=false→l.Nodup
 | [],_=>List.nodup_nil
 |p::l,h=>by
  unfold wT at h
  rw [Bool.or_eq_false_iff] at h
  exact List.nodup_cons.2 ⟨fun hm=>(by rw [List.contains_iff_mem.2 hm] at h;exact absurd h.1 (by decide)),aTi h.2⟩
theorem yZ {t:Tx} (h:aG t=0):(bK t).Nodup:=by
 have h1:=(aKo h).2.2.2.1
 unfold yY at h1
 have:=aTi h1
 exact (List.pairwise_reverse.1 this).imp fun h=>Ne.symm h
theorem aRz:∀(l:List Int) (s r:Int),jP s l=some r→r=s+l.sum∧∀a∈l,0≤a
 | [],s,r,h=>by simp [jP] at h;simp [h]
 |a::l,s,r,h=>by
  simp only [jP] at h
  split at h
  ·rename_i hc
   simp only [Bool.and_eq_true] at hc
   obtain ⟨h1,h2⟩:=aRz l _ r h
   refine ⟨by rw [h1,List.sum_cons];omega,fun b hb=>?_⟩
   rcases List.mem_cons.1 hb with rfl|hb
   ·exact ((bG _).1 hc.1).1
   ·exact h2 b hb
  ·cases h
theorem xG {l:List Int} (h:kB l=0):fX l=l.sum∧∀a∈l,0≤a:=by
 unfold kB at h
 cases hs:jP 0 l with
 |none=>rw [hs] at h;exact absurd h (show ¬(3:Int)=0 by decide)
 |some r=>
  obtain ⟨h1,h2⟩:=aRz l 0 r hs
  exact ⟨by unfold fX;rw [hs];show r=_;omega,h2⟩
theorem aAg {l:List Ent} (hn:(l.map (·.id)).Nodup) {p:Pt}:dM l p=true↔∃z∈l,z.id=p.s∧p.i<(z.tx.outs.length:Int):=by
 unfold dM
 rw [Bool.and_eq_true,aD2,decide_eq_true_eq]
 constructor
 ·rintro ⟨⟨z,hz,e⟩,h⟩
  have:=(get_mem hn hz).2
  rw [e] at this
  rw [this] at h
  exact ⟨z,hz,e,h⟩
 ·rintro ⟨z,hz,e,h⟩
  refine ⟨⟨z,hz,e⟩,?_⟩
  have:=(get_mem hn hz).2
  rw [e] at this
  rw [this];exact h
theorem aW7 {t:Tx} {z:Ent} {p:Pt} (hp:p∈bK t) (e:z.id=p.s) (h:p.i<(z.tx.outs.length:Int)):dG t z=true:=by
 obtain ⟨b,hb,rfl⟩:=List.mem_map.1 hp
 unfold dG
 exact List.any_eq_true.2 ⟨b,hb,by rw [dTr e.symm,dTr h];rfl⟩
theorem bF8 {f:Pt→Option Cn} {l:List Ent} {t:Tx} {h rate:Int} (hn:(l.map (·.id)).Nodup) (h0:(eO f l t h rate).1=0):((dC l (evL l t)++ [jY t (aY f l t h).1]).map (·.id)).Nodup:=by
 obtain ⟨-, -,hh, -⟩:=eI (aHp h0).1
 rw [List.map_append,List.nodup_append]
 refine ⟨bA6 hn _,by simp,fun a ha b hb=>?_⟩
 simp only [List.map_cons,List.map_nil,List.mem_singleton] at hb
 subst hb
 rintro rfl
 obtain ⟨x,hx,e⟩:=List.mem_map.1 ha
 have:dO l (idT t)=true:=aD2.2 ⟨x,(gR _ _).subset hx,e⟩
 rw [hh] at this;cases this
def rK (h:Int) (x:Ent) (k:Nat):En:=(⟨x.id,(k:Nat)⟩,⟨(x.tx.outs.getD k default).v,(x.tx.outs.getD k default).s,h⟩)
def aCv (m:List En) (h:Int) (x:Ent) (k:Nat):List En:=((List.range k).map (rK h x)).filter fun e=>(aS m e.1).isNone
def lD (m:List En) (h:Int) (x:Ent):List En:=aCv m h x x.tx.outs.length
def bV (m:List En) (l:List Ent) (h:Int):List En:=m++l.flatMap (lD m h)
theorem aO7 (m:List En) (h:Int) (x:Ent) (k:Nat):aCv m h x (k+1)=aCv m h x k++if (aS m ⟨x.id,(k:Nat)⟩).isNone then [rK h x k] else []:=by
 unfold aCv
 rw [List.range_succ,List.map_append,List.filter_append]
 congr 1
 rw [List.map_cons,List.map_nil,List.filter_cons]
 rfl
theorem yV {m:List En} {h:Int} {x:Ent} {k:Nat} {e:En}:e∈aCv m h x k↔∃j,j<k∧e=rK h x j∧aS m e.1=none:=by
 unfold aCv
 rw [List.mem_filter,List.mem_map]
 constructor
 ·rintro ⟨⟨j,hj,rfl⟩,h2⟩;exact ⟨j,List.mem_range.1 hj,rfl,Option.isNone_iff_eq_none.1 h2⟩
 ·rintro ⟨j,hj,rfl,h2⟩;exact ⟨⟨j,List.mem_range.2 hj,rfl⟩,Option.isNone_iff_eq_none.2 h2⟩
theorem mY {m:List En} {l:List Ent} {h:Int} {e:En}:e∈bV m l h↔e∈m∨∃x∈l,∃j,j<x.tx.outs.length∧e=rK h x j∧aS m e.1=none:=by
 unfold bV lD
 rw [List.mem_append,List.mem_flatMap]
 simp only [yV]
theorem aZv (m:List En) (h:Int) (x:Ent):((lD m h x).map (·.1)).Nodup:=by
 have h1:(((List.range x.tx.outs.length).map (rK h x)).map (·.1)).Nodup:=by
  rw [List.map_map]
  refine List.Pairwise.map _ (fun a b hab e=>?_) List.nodup_range
  have:((a:Nat):Int)=(b:Nat):=congrArg Pt.i e
  exact hab (by omega)
 exact h1.sublist (List.Sublist.map _ List.filter_sublist)
theorem aAu {m:List En} (hm:(m.map (·.1)).Nodup):∀{l:List Ent} (_:(l.map (·.id)).Nodup) (h:Int),((bV m l h).map (·.1)).Nodup:=by
 intro l hn h
 unfold bV
 rw [List.map_append,List.nodup_append]
 refine ⟨hm,?_,?_⟩
 ·induction l with
  |nil=>exact List.nodup_nil
  |cons x l ih=>
   rw [List.map_cons,List.nodup_cons] at hn
   rw [List.flatMap_cons,List.map_append,List.nodup_append]
   refine ⟨aZv m h x,ih hn.2,fun a ha b hb=>?_⟩
   rintro rfl
   obtain ⟨e,he,rfl⟩:=List.mem_map.1 ha
   obtain ⟨d,hd,e2⟩:=List.mem_map.1 hb
   obtain ⟨y,hy,hd⟩:=List.mem_flatMap.1 hd
   obtain ⟨j, -,rfl, -⟩:=yV.1 he
   obtain ⟨k, -,rfl, -⟩:=yV.1 hd
   have:y.id=x.id:=congrArg Pt.s e2
   exact hn.1 (List.mem_map.2 ⟨y,hy,this⟩)
 ·intro a ha b hb
  rintro rfl
  obtain ⟨d,hd,rfl⟩:=List.mem_map.1 hb
  obtain ⟨y, -,hd⟩:=List.mem_flatMap.1 hd
  obtain ⟨k, -,rfl,h2⟩:=yV.1 hd
  obtain ⟨e,he,e2⟩:=List.mem_map.1 ha
  have:=sU (m:=m) (p:=e.1) (c:=e.2) hm he
  rw [e2,h2] at this;cases this
theorem xZ {m:List En} {l:List Ent} {h:Int} (hm:(m.map (·.1)).Nodup) (hn:(l.map (·.id)).Nodup) {p:Pt} (hp:0≤p.i):aS (bV m l h) p=dP (aS m) l h p:=by
 have hk:=aAu hm hn h
 unfold dP
 cases hf:aS m p with
 |some c=>exact sU hk (mY.2 (.inl (tV hf)))
 |none=>
  show _=aE0 l h p
  unfold aE0
  by_cases ho:dM l p=true
  ·rw [if_pos ho]
   obtain ⟨z,hz,ea,eb⟩:=(aAg hn).1 ho
   have hg:=(get_mem hn hz).2
   rw [ea] at hg
   rw [hg]
   have hi:p.i.toNat<z.tx.outs.length:=by omega
   rw [List.getElem?_eq_getElem hi]
   have e:(p,(⟨z.tx.outs[p.i.toNat].v,z.tx.outs[p.i.toNat].s,h⟩:Cn))=rK h z p.i.toNat:=by
    unfold rK
    have:p=⟨z.id,((p.i.toNat:Nat):Int)⟩:=by
     rw [ea,show ((p.i.toNat:Nat):Int)=p.i by omega]
    rw [←this]
    simp [List.getD_eq_getElem?_getD,List.getElem?_eq_getElem hi]
   refine sU hk (mY.2 (.inr ⟨z,hz,p.i.toNat,hi,e,hf⟩))
  ·rw [if_neg ho]
   cases hq:aS (bV m l h) p with
   |none=>rfl
   |some c=>
    exfalso
    rcases mY.1 (tV hq) with h5|⟨x,hx,j,hj,e, -⟩
    ·have:=sU hm h5
     rw [hf] at this;cases this
    ·refine ho ((aAg hn).2 ⟨x,hx,?_,?_⟩)
     ·exact (congrArg (fun e:En=>e.1.s) e).symm
     ·have:p.i=((j:Nat):Int):=congrArg (fun e:En=>e.1.i) e
      rw [this];omega
theorem bG1 (h:Int) (x:Ent):tot ((List.range x.tx.outs.length).map (rK h x))=(values x.tx).sum:=by
 unfold tot values
 rw [List.map_map]
 congr 1
 apply List.ext_getElem
 ·simp
 ·intro i h1 h2
  simp only [List.length_map,List.length_range] at h1
  simp [rK,List.getD_eq_getElem?_getD,List.getElem?_eq_getElem h1]
theorem aPm (p:En→Bool):∀(A:List En),(∀e∈A,0≤e.2.v)→tot (A.filter p)≤tot A
 | [],_=>by simp
 |e::A,hA=>by
  have ih:=aPm p A (fun d hd=>hA d (by simp [hd]))
  have h0:=hA e (by simp)
  rw [List.filter_cons]
  split
  ·rw [aI0,aI0];omega
  ·rw [aI0];omega
theorem aO9 {x:Ent} (hx:EntOk x) (h:Int) (k:Nat) (hk:k<x.tx.outs.length):0≤(rK h x k).2.v:=by
 have:=(xG (pM hx.check)).2
 unfold rK
 simp only [List.getD_eq_getElem?_getD,List.getElem?_eq_getElem hk,Option.getD_some]
 exact this _ (List.mem_map.2 ⟨_,gMe hk,rfl⟩)
theorem aNx (m:List En) (h:Int) {x:Ent} (hx:EntOk x):tot (lD m h x)≤(values x.tx).sum:=by
 rw [←bG1 h x]
 refine aPm _ _ fun e he=>?_
 obtain ⟨k,hk,rfl⟩:=List.mem_map.1 he
 exact aO9 hx h k (List.mem_range.1 hk)
theorem aEe {m:List En} (hm:∀e∈m,0≤e.2.v) {l:List Ent} (hE:∀x∈l,EntOk x) (h:Int):∀e∈bV m l h,0≤e.2.v:=by
 intro e he
 rcases mY.1 he with h5|⟨x,hx,j,hj,rfl, -⟩
 ·exact hm e h5
 ·exact aO9 (hE x hx) h j hj
theorem bIf {m:List En} {h:Int} {l l':List Ent} (hs:l'.Sublist l) (hp:∀x∈l,∀e∈lD m h x,0≤e.2.v):tot (l'.flatMap (lD m h))≤tot (l.flatMap (lD m h)):=by
 induction hs with
 |slnil=>exact Int.le_refl _
 |cons x _ ih=>
  have h1:=ih (fun y hy=>hp y (by simp [hy]))
  have h2:=Mon.pos (hp x (by simp))
  rw [List.flatMap_cons,eT];omega
 |cons_cons x _ ih=>
  have h1:=ih (fun y hy=>hp y (by simp [hy]))
  rw [List.flatMap_cons,eT,List.flatMap_cons,eT];omega
structure Money (m:List En) (l:List Ent) (h B:Int):Prop where
 all:tot (bV m l h)≤B
 fee:∀x∈l,x.fee≤B
theorem Money.nil {m:List En} {h B:Int} (hB:tot m≤B):Money m [] h B:=⟨by unfold bV;simpa using hB,by simp⟩
theorem Money.more {m:List En} {l:List Ent} {h B B':Int} (hM:Money m l h B) (hb:B≤B'):Money m l h B':=⟨by have:=hM.all;omega,fun x hx=>by have:=hM.fee x hx;omega⟩
theorem Money.acc {m:List En} {l:List Ent} {t:Tx} {h rate B:Int} (hM:Money m l h B) (hk:(m.map (·.1)).Nodup) (hm:∀e∈m,0≤e.2.v) (hn:(l.map (·.id)).Nodup) (hE:∀x∈l,EntOk x) (ht:∀p∈bK t,0≤p.i):Money m (kD (aS m) l t h rate) h (2*B):=by
 have hpos:=Mon.pos (aEe hm hE h)
 have hall:=hM.all
 by_cases h0:(eO (aS m) l t h rate).1=0
 ·obtain ⟨e1, -,e2⟩:=aUx hn h0
  obtain ⟨h1,h2,h3, -⟩:=aHp h0
  obtain ⟨hc, -, -,hgd⟩:=eI h1
  obtain ⟨hf1,hf2⟩:=aN4 h1
  obtain ⟨hs1,hs2,hs3⟩:=bC7 hc hf1
  obtain ⟨hv1,hv2⟩:=xG (pM hc)
  obtain ⟨hw1,hw2⟩:=xG hs2
  have hfee:=(bG _).1 hgd
  have hx:EntOk (jY t (aY (aS m) l t h).1):=⟨hc,(eI h1).2.1,hgd,rfl,rfl⟩
  have hin:(t.ins.map (inV (dP (aS m) l h))).sum≤tot (bV m l h):=by
   have hd:(bK t).Nodup:=yZ hc
   have hsome:∀p∈bK t,(aS (bV m l h) p).isSome=true:=fun p hp=>by
    rw [xZ hk hn (ht p hp)]
    obtain ⟨b,hb,rfl⟩:=List.mem_map.1 hp
    exact hs1 b hb
   have h5:=aFz (bK t) (bV m l h) (aAu hk hn h) hd hsome
   have h6:0≤tot (aLd (bV m l h) (bK t)):=Mon.pos fun e he=>aEe hm hE h e (aGh _ _ he)
   have h7:((bK t).map fun p=>((aS (bV m l h) p).getD cn0).v)=t.ins.map (inV (dP (aS m) l h)):=by
    unfold bK
    rw [List.map_map]
    refine List.map_congr_left fun b hb=>?_
    show ((aS (bV m l h) b.p).getD cn0).v=_
    rw [xZ hk hn (ht _ (List.mem_map.2 ⟨b,hb,rfl⟩))];rfl
   rw [h7] at h5
   omega
  have hvs:0≤(values t).sum:=by
   have:∀{L:List Int},(∀a∈L,0≤a)→0≤L.sum:=fun {L} hL=>by
    induction L with
    |nil=>simp
    |cons a L ih=>
     rw [List.sum_cons]
     have:=hL a (by simp)
     have:=ih (fun b hb=>hL b (by simp [hb]))
     omega
   exact this hv2
  rw [hf2,hs3,hw1,hv1] at hfee
  rw [e2]
  refine ⟨?_,fun x hx=>?_⟩
  ·unfold bV
   rw [eT,List.flatMap_append,eT,List.flatMap_cons,List.flatMap_nil,List.append_nil]
   have h8:=bIf (m:=m) (h:=h) (gR l (evL l t)) (fun x hx e he=>by
    obtain ⟨j,hj,rfl, -⟩:=yV.1 he
    exact aO9 (hE x hx) h j hj)
   have h9:=aNx m h hx
   have h10:tot (bV m l h)=tot m+tot (l.flatMap (lD m h)):=by unfold bV;rw [eT]
   have h11:(values (jY t (aY (aS m) l t h).1).tx).sum=(values t).sum:=rfl
   omega
  ·rcases List.mem_append.1 hx with hx|hx
   ·have:=hM.fee x ((gR _ _).subset hx);omega
   ·simp only [List.mem_singleton] at hx
    subst hx
    show (aY (aS m) l t h).1≤_
    rw [hf2,hs3,hw1,hv1];omega
 ·rw [(nO h0).2]
  exact hM.more (by omega)
end
end Go.K
