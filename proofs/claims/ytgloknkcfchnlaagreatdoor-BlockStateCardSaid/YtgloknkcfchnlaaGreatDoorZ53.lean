/- Plain: a coin that was changed, and changed back. The walk o -/
import Derived.Test.YtgloknkcfchnlaaGreatDoorZ50
set_option linter.unusedVariables false
set_option linter.unusedSimpArgs false
namespace Go.K
section
open Go Go.Proofs.YtgloknkcfchnlaaGreatDoor
theorem aVt {m:List En} (h:Srt m) {p:Pt} {c:Cn} (h0:bP m p=0) (hc:cJ m p=c):aT m p=some c:=by
 have h1:=aBl (List.Perm.refl m) h p
 have h2:=oX (List.Perm.refl m) h p
 rw [h0] at h1
 rw [hc] at h2
 unfold mD at h1
 unfold fZ at h2
 cases ha:aT m p with
 |none=>rw [ha] at h1;simp at h1
 |some d=>rw [ha] at h2;simp at h2;rw [h2]
theorem aLr:∀(xs:List En) {m:List En},CG m→(xs.map (·.1)).Nodup→(∃x∈xs,aT m x.1≠some x.2)→(fW xs m).1=false
 | [],m,_,_,⟨x,hx,_⟩=>by simp at hx
 |y::ys,m,h,hn,⟨x,hx,hne⟩=>by
  have hn':=List.nodup_cons.1 hn
  unfold fW
  split
  ·rename_i hc
   rcases List.mem_cons.1 hx with rfl|hx
   ·exact absurd (aVt h.srt hc.1 hc.2) hne
   ·have hk:x.1≠y.1:=fun e=>hn'.1 (List.mem_map.2 ⟨x,hx,e⟩)
    exact aLr ys (h.take y.1) hn'.2 ⟨x,hx,by rw [uC h.srt hk];exact hne⟩
  ·rfl
theorem aLe {m a b:List En} (h:CG m) (hn:(a.map (·.1)).Nodup) (hx:∃x∈a,aT m x.1≠some x.2):(jF m a b).1=false:=by
 have:=aLr a h hn hx
 unfold jF
 rw [if_neg (by rw [this];decide)]
theorem qV {m:List En} (h:Srt m) (p:Pt):aT (aX m p) p=none:=by
 rw [fG h,aGl,if_pos rfl]
theorem aEx {m:List En} (h:CG m) {p q:Pt} {c:Cn}:aT (bG m p c) q=if aQ m p c=0∧p=q then some c else aT m q:=by
 by_cases h0:aQ m p c=0
 ·have hp:=sT h.srt h0
  have hg:=(h.put p c).nodup
  obtain ⟨-,hno, -⟩:=aMe h0
  by_cases e:p=q
  ·subst e
   rw [if_pos ⟨h0,rfl⟩]
   exact (bC hg (e:=(p,c))).1 (hp.mem_iff.2 (by simp))
  ·rw [if_neg (fun x=>e x.2)]
   cases ha:aT m q with
   |some d=>exact (bC hg (e:=(q,d))).1 (hp.mem_iff.2 (by simp [gB ha]))
   |none=>
    cases hb:aT (bG m p c) q with
    |none=>rfl
    |some d=>
     rcases List.mem_append.1 (hp.mem_iff.1 (gB hb)) with h5|h5
     ·have:=(bC h.nodup).1 h5
      simp only at this
      rw [ha] at this;cases this
     ·simp at h5;exact absurd h5.1.symm e
 ·rw [if_neg (fun x=>h0 x.1)]
  unfold bG
  rw [if_neg h0]
theorem aX2 {m:List En} (h:CG m) {p:Pt} {c d:Cn} (hd:d≠c):aT (bG (aX m p) p d) p≠some c:=by
 rw [aEx (h.take p)]
 split
 ·exact fun e=>hd (by injection e)
 ·rw [qV h.srt];exact fun e=>by cases e
theorem aT5 {m:List En} (h:CG m) {p:Pt} {c d:Cn} (hm:aT m p=some c):bG (aX (bG (aX m p) p d) p) p c=m:=by
 have g1:=h.take p
 have g2:=g1.put p d
 have g3:=g2.take p
 have e3:aX (bG (aX m p) p d) p=aX m p:=by
  refine aMh g3.srt g1.srt fun q=>?_
  by_cases e:q=p
  ·subst e;rw [qV g2.srt,qV h.srt]
  ·rw [uC g2.srt e,aEx g1,if_neg (fun x=>e x.2.symm)]
 rw [e3]
 have hf:=h.fm _ (gB hm)
 have ht:=aG0 h.srt hm
 have h0:aQ (aX m p) p c=0:=by
  rw [tH hf (by
   cases hi:cF (aX m p) p
   ·rfl
   ·have:=jP (aX m p) p
    rw [qV h.srt,hi] at this;cases this),if_pos]
  rw [ht,show tot m - c.v+c.v=tot m by omega]
  exact h.mon.good
 refine aMh (g1.put p c).srt h.srt fun q=>?_
 rw [aEx g1]
 by_cases e:q=p
 ·subst e;rw [if_pos ⟨h0,rfl⟩,hm]
 ·rw [if_neg (fun x=>e x.2.symm),uC h.srt e]
end
end Go.K
namespace Go.Proofs.YtgloknkcfchnlaaGreatDoor
section
open Go Go.K
attribute [local irreducible] aD aK aV KOp.wp K.Spec u32 leS vnS str aN aI aO aP bI idT aY EtR bA eZ jF aX bG
set_option maxHeartbeats 16000000 in
set_option maxRecDepth 4000 in
theorem aE3 {v:Value} {zs:List BSm} (which:UInt8) (w:World) (hg:EtR w) (hz:SlR hG [] w v zs):K.Spec Tryz.prog F.kedgelaw12_BlockState [v,u8V which] w fun r w'=>r=.bool true∧Ext w w':=by
 refine pO rfl ?_
 unfold iJ
 refine oy ?_
 repeat (first|refine go1 ?_|refine zg λ_ _=>?_|refine zi λ_ _=>?_)
 refine zC (d:=some 16) rfl (lC _) ?_
 rintro _ w1 ⟨b,mb,rfl,S1,hb1,hb2,x1⟩
 have hMb:∀y∈ [b,mb],w.heap.size≤y:=fun y hy=>by simp at hy;rcases hy with rfl|rfl;exact hb1;exact hb2
 have hM1:∀y∈ [b,mb],y<w1.heap.size:=fun y hy=>by simp at hy;rcases hy with rfl|rfl;exact S1.lt.1;exact S1.lt.2
 have hz1:SlR hG [b,mb] w1 v zs:=hz.step x1 (by simp) (fun y hy=>.inr (hMb y hy))
 repeat (first|refine go1 ?_|refine zg λ_ _=>?_|refine zi λ_ _=>?_)
 refine zC (d:=some 18) rfl (kV (M:= [b,mb]) (l:= []) (zs:=zs) 1 _ (SlE.nil _) CG.nil SC.nil hz1 (by simp) (by omega) hM1) ?_
 rintro vtx w2 ⟨txs,oT,htl,hmk,x2⟩
 have hT:SlR txR [b,mb] w2 vtx txs:=oT.slB hM1
 have hsm:∀t∈txs,t.Sm:=fun t ht=>(hmk t ht).sm
 have hou:=uQ hmk htl
 repeat (first|refine go1 ?_|refine zg λ_ _=>?_|refine zi λ_ _=>?_)
 refine zC (d:=some 22) rfl (eU (M:= [b,mb]) (txs:=txs) (l:= []) 1 _ (S1.ext x2) CG.nil SC.nil (by simp) (by simp) (fun y hy=>nLt (hM1 y hy) x2.size) hT hsm (by simp;omega) (by omega)) ?_
 rintro _ w8 ⟨sv,mv,e,rfl,E8,S8,hA,hB,c8⟩
 have x08:Ext w w8:=(Ext.chg (x1.trans x2) c8).mono (fun y hy=>.inr (hMb y hy))
 have gn:=pZ CG.nil txs 1
 have nl:=jL CG.nil txs 1
 have s2:=x2.size
 have hM8:∀y∈ [b,mb],y<w8.heap.size:=fun y hy=>nLt (hM1 y hy) (nTr s2 c8.size)
 have o12:sv.oneCell'=true∧mv.oneCell'=true:=by
  by_cases h0:(aP [] txs 1).2.1=0
  ·obtain ⟨h1,h2, -⟩:=hA h0
   obtain ⟨_,_,q⟩:=h1.form
   obtain ⟨_,_,q2⟩:=h2.form
   rw [q,q2];exact ⟨rfl,rfl⟩
  ·obtain ⟨rfl,rfl⟩:=hB h0;exact ⟨rfl,rfl⟩
 have ones2:([sv,mv]:List Value).all (fun v=>v.oneCell')=true:=by simp [o12.1,o12.2]
 repeat (first|refine zE (d':=7) (fun _=>rfl) rfl rfl ones2 (fun b7 w9 x9 a9 (r9:Row w9 ⟨b7,0,none⟩ [sv,mv]) hb7=>?_)|refine go1 ?_|refine zg λ_ _=>?_|refine zi λ_ _=>?_)
 have l7:=a9.lt
 have x09:=x08.trans x9
 by_cases h0:(aP [] txs 1).2.1=0
 ·obtain rfl:=E8.nilD.1 h0
  obtain ⟨hsv,hmv,hsb⟩:=hA h0
  rw [yT] at hsv
  rw [yF] at hmv
  have S9:=S8.ext x9
  have hsv9:SlR enR [b,mb] w9 sv []:=(hsv.en fun y hy hm=>by have:=hsb y (.inl hy);have:=hM1 y hm;omega).ext x9
  have hmv9:SlR enR [b,mb] w9 mv (aP [] txs 1).1:=(hmv.en fun y hy hm=>by have:=hsb y (.inr hy);have:=hM1 y hm;omega).ext x9
  have hnl:(aP [] txs 1).1.length≤15:=by simp at nl;omega
  clear hsv hmv hsb hA hB E8 S8 c8 x08 nl hT oT hz1
  generalize (aP [] txs 1).1=m at*
  by_cases hp:0<m.length
  ·have hw:=which.toNat_lt
   have hrem:=Nat.mod_lt which.toNat hp
   obtain ⟨n9,hn9⟩:∃n,n=which.toNat%m.length:=⟨_,rfl⟩
   have hnl9:n9<m.length:=by rw [hn9];exact hrem
   obtain ⟨x,hx⟩:∃x,x=m[n9]:=⟨_,rfl⟩
   have hxm:x∈m:=by rw [hx];exact gMe hnl9
   have hax:=(bC gn.nodup).1 hxm
   have hxh:0≤x.2.h∧x.2.h≤1000000:=by
    have:=gn.fm x hxm
    simp only [cE,Bool.and_eq_true,decide_eq_true_eq] at this
    omega
   repeat (first|refine zG (d:=some 30) (E:=enR) (M:= [b,mb]) (l:=m) rfl hmv9 ?_|refine aG (d:=some 31) (.bool false) rfl (congrArg (fun b=>some (Value.bool b)) (dFa (by omega))) ?_|refine zg (fun w10 x10=>?_)|refine aG (d:=some 37) (.int .i64 (which.toNat:Nat)) rfl (congrArg (fun n=>some (Value.int .i64 n)) (wrap_u8 which)) ?_|refine zG (d:=some 40) (E:=enR) (M:= [b,mb]) (l:=m) rfl (SlR.ext (w:=w9) hmv9 (by exact fx)) ?_|(refine aEf (d:=some 41) (n:=which.toNat) (m:=m.length) rfl rfl (by omega) ?_;rw [←hn9])|(refine aL (d:=some 42) (E:=aU) rfl rfl (n:=n9) (l:=m) (SlE.ext (w:=w9) (by exact fx) hmv9.en) rfl hnl9 (fun ad9 r10=>?_);rw [←hx] at r10)|refine zH (d:=some 9) (fun b9 w11 x11 a11 hb9=>?_)|refine go1 ?_|refine zg λ_ _=>?_|refine zi λ_ _=>?_)
   repeat (first|refine go1 ?_|refine zg λ_ _=>?_|refine zi λ_ _=>?_)
   refine bW (b:=b9) (vs:=aU.f x) rfl rfl rfl (aU.one x) a11 rfl (fun w12 c12 a12=>?_)
   have s910:=x10.size
   have s1011:=x11.size
   have s09:=x09.size
   have hM9:∀y∈ [b,mb],y<w9.heap.size:=fun y hy=>nLt (hM8 y hy) x9.size
   have hb9M:b9∉ [b,mb]:=fun h=>by have:=hM9 _ h;omega
   have x911:Ext w9 w11:=x10.trans x11
   have c912:Chg [b9] w9 w12:=(Chg.trans x911 c12).mono (by simp)
   have x912:Ext w9 w12:=c912.mono (fun y hy=>.inr (by simp at hy;omega))
   have r12:Row w12 ⟨b9,0,none⟩ (aU.f x):=Row.of_at a12
   have S12:=S9.ext x912
   have r712:=Row.ext x912 r9
   have hmv12:=hmv9.ext x912
   have hsv12:=hsv9.ext x912
   have l9:=a12.lt
   have x012:=x09.trans x912
   clear x10 x11 a11 c12 x911 c912 r10
   repeat (first|refine go1 ?_|refine zg λ_ _=>?_|refine zi λ_ _=>?_)
   refine zC (d:=some 47) rfl (qY x.1 _ S12) ?_
   rintro _ w13 ⟨-,S13,c13⟩
   have r13:=Row.chg c13 r12 hb9M
   have r713:=Row.chg c13 r712 (fun h=>by have:=hM8 _ h;simp only at this;omega)
   repeat (first|refine zE (d':=10) (vs:=x.2.cs) (fun _=>rfl) rfl rfl rfl (fun b10 w14 x14 a14 (r14:Row w14 ⟨b10,0,none⟩ x.2.cs) hb10=>?_)|refine go1 ?_|refine zg λ_ _=>?_|refine zi λ_ _=>?_)
   obtain ⟨d,hd⟩:∃d:Cn,d=⟨x.2.v,x.2.s,x.2.h+1⟩:=⟨_,rfl⟩
   have hdne:d≠x.2:=fun e=>by
    have:=congrArg Cn.h e
    rw [hd] at this
    simp only at this
    omega
   refine bV (b:=b10) (o:=2) (cur:=x.2.cs) rfl rfl rfl a14 (Nat.le_of_ble_eq_true rfl) (fun w15 c15 a15=>?_)
   have a15:At w15 b10 (.cells d.cs.toArray T.api_Coin (0,0)):=by rw [hd];exact a15
   have r15:=Row.of_at a15
   have s13:=c13.size
   have s14:=x14.size
   have hb10b:w12.heap.size≤b10:=nTr s13 hb10
   have n10:∀y∈ [b,mb],y≠b10:=fun y hy e=>by have:=hM9 y hy;have:=x912.size;omega
   have r915:=Row.chg c15 (Row.ext x14 r13) (by simp;omega)
   have hb7l:b7<w12.heap.size:=by have:=x912.size;omega
   have r715:=Row.chg c15 (Row.ext x14 r713) (by simp;omega)
   have S15:=(S13.ext x14).chg c15 (by simp;exact n10 b (by simp)) (by simp;exact n10 mb (by simp))
   have c1215:Chg [b,mb] w12 w15:=(c13.trans (Chg.trans x14 c15)).mono (fun y hy=>by
    simp at hy
    rcases hy with rfl|rfl|rfl
    ·exact .inl (by simp)
    ·exact .inl (by simp)
    ·exact .inr hb10b)
   have g1:=gn.take x.1
   clear c13 x14 c15 r13 r713 S13 a14 r14 r12 S12
   repeat (first|refine go1 ?_|refine zg λ_ _=>?_|refine zi λ_ _=>?_)
   refine zC (d:=some 58) rfl (uM x.1 d _ S15) ?_
   rintro _ w16 ⟨-,S16,c16⟩
   have c1216:Chg [b,mb] w12 w16:=(c1215.trans c16).mono (by simp)
   have g2:=g1.put x.1 d
   have hne:=aX2 gn (p:=x.1) hdne
   have hbk:=aT5 gn (d:=d) hax
   have l16:=xC (aX m x.1) x.1 d g1.srt
   have l15:=aCg m x.1
   generalize hM2:bG (aX m x.1) x.1 d=M2 at*
   have r916:=Row.chg c16 r915 hb9M
   have r716:=Row.chg c16 r715 (fun h=>by have:=hM8 _ h;simp only at this;omega)
   have x016:Ext w w16:=(Ext.chg x012 c1216).mono (fun y hy=>.inr (hMb y hy))
   repeat (first|refine go1 ?_|refine zg λ_ _=>?_|refine zi λ_ _=>?_)
   refine zC (d:=some 60) rfl (lE _ S16 (by omega)) ?_
   rintro av w17 ⟨hav, -,x17⟩
   have hsv17:SlR enR [b,mb] w17 sv []:=(hsv12.step c1216 (fun y hy=>.inl hy) (fun y hy=>.inl hy)).ext x17
   have hmv17:SlR enR [b,mb] w17 mv m:=(hmv12.step c1216 (fun y hy=>.inl hy) (fun y hy=>.inl hy)).ext x17
   have r717:=Row.ext x17 r716
   repeat (first|refine go1 ?_|refine zg λ_ _=>?_|refine zi λ_ _=>?_)
   refine zC (d:=some 63) rfl (aCt (l:=M2) (spent:= []) (made:=m) _ (S16.ext x17) hsv17 hmv17 (by simp) (by omega) (aLe g2 gn.nodup ⟨x,hxm,hne⟩)) ?_
   rintro _ w18 ⟨rfl,x18⟩
   repeat (first|refine go1 ?_|refine zg λ_ _=>?_|refine zi λ_ _=>?_)
   refine zC (d:=some 65) rfl (lE _ ((S16.ext x17).ext x18) (by omega)) ?_
   rintro bv w19 ⟨hbv, -,x19⟩
   have x1719:Ext w17 w19:=x18.trans x19
   have x1619:Ext w16 w19:=x17.trans x1719
   have hav19:=hav.ext x1719
   have r719:=Row.ext x1719 r717
   have r919:=Row.ext x1619 r916
   have S19:=S16.ext x1619
   have x019:=x016.trans x1619
   have hsv19:=hsv17.ext x1719
   have hmv19:=hmv17.ext x1719
   clear x17 x18 x19 r717 r716 r916
   repeat (first|refine bN (d:=some 70) rfl hbv ?_|refine bN (d:=some 72) rfl hav19 ?_|refine aG (d:=some 73) (.bool false) rfl (congrArg (fun b=>some (Value.bool (!b))) (dTr rfl)) ?_|refine bN (d:=some 76) rfl hbv ?_|refine go1 ?_|refine zg λ_ _=>?_|refine zi λ_ _=>?_)
   refine aM (fun (q:Nat) w'=>Ext w19 w'∧q≤M2.length) (fun q=> [(5,.pointer (some ⟨b,0,none⟩)),(7,.pointer (some ⟨b7,0,none⟩)),(9,.pointer (some ⟨b9,0,none⟩)),(11,av),(13,bv),(75,bv),(76,.int .i64 (M2.length:Nat)),(77,.int .i64 (q:Nat))]) (fun q=>M2.length - q) 0 ⟨rfl,rfl,rfl,rfl,rfl,rfl,rfl,rfl,trivial⟩ ⟨Ext.refl _,by simp⟩ ?_
   rintro q ρ w20 ⟨x20,hq⟩
   repeat (first|refine go1 ?_|refine zg λ_ _=>?_|refine zi λ_ _=>?_)
   refine zL (x:=.tmp 78) (p:=((q:Nat):Int)<((M2.length:Nat):Int)) rfl (fun h8=>?_) (fun h8=>?_)
   ·have hql:q<M2.length:=by omega
    repeat (first|refine aL (d:=some 82) (E:=aU) rfl rfl (n:=q) (l:=M2) (SlE.ext (w:=w19) (by exact fx) hbv) rfl hql (fun ad1 ra=>?_)|refine aL (d:=some 86) (E:=aU) rfl rfl (n:=q) (l:=M2) (SlE.ext (w:=w19) (by exact fx) hav19) rfl hql (fun ad2 rb=>?_)|refine aG (d:=some 88) (.bool false) rfl (aS0 M2[q]) ?_|refine go1 ?_|refine zg λ_ _=>?_|refine zi λ_ _=>?_)
    exact ⟨q+1,⟨rfl,rfl,rfl,rfl,rfl,rfl,rfl,rfl,trivial⟩,⟨by exact fx,by omega⟩,by omega⟩
   ·have S20:=S19.ext x20
    have r920:=Row.ext x20 r919
    have r720:=Row.ext x20 r719
    have x020:=x019.trans x20
    have hsv20:=hsv19.ext x20
    have hmv20:=hmv19.ext x20
    clear x20 x1619 x1719 r919 r719 S19 hav19 hbv
    repeat (first|refine go1 ?_|refine zg λ_ _=>?_|refine zi λ_ _=>?_)
    refine zC (d:=some 93) rfl (qY x.1 _ S20) ?_
    rintro _ w21 ⟨-,S21,c21⟩
    have r921:=Row.chg c21 r920 hb9M
    have r721:=Row.chg c21 r720 (fun h=>by have:=hM8 _ h;simp only at this;omega)
    repeat (first|refine go1 ?_|refine zg λ_ _=>?_|refine zi λ_ _=>?_)
    refine zC (d:=some 99) rfl (uM x.1 x.2 _ S21) ?_
    rintro _ w22 ⟨-,S22,c22⟩
    rw [hbk] at S22
    have c2022:Chg [b,mb] w20 w22:=(c21.trans c22).mono (by simp)
    have r722:=Row.chg c22 r721 (fun h=>by have:=hM8 _ h;simp only at this;omega)
    have hsv22:SlR enR [b,mb] w22 sv []:=hsv20.step c2022 (fun y hy=>.inl hy) (fun y hy=>.inl hy)
    have hmv22:SlR enR [b,mb] w22 mv m:=hmv20.step c2022 (fun y hy=>.inl hy) (fun y hy=>.inl hy)
    have x022:Ext w w22:=(Ext.chg x020 c2022).mono (fun y hy=>.inr (hMb y hy))
    have hsw:=uG gn CG.nil
    rw [yF,yT] at hsw
    repeat (first|refine go1 ?_|refine zg λ_ _=>?_|refine zi λ_ _=>?_)
    refine zC (d:=some 102) rfl (qM (l:=m) (spent:= []) (made:=m) _ S22 hsv22 hmv22 (by simp) (by omega) (by rw [hsw])) ?_
    rw [hsw]
    rintro _ w23 ⟨rfl,S23,c23⟩
    have S23:cH T.coins_Set w23 b mb []:=S23
    have x023:Ext w w23:=(Ext.chg x022 c23).mono (fun y hy=>.inr (hMb y hy))
    have r723:=Row.chg c23 r722 (fun h=>by have:=hM8 _ h;simp only at this;omega)
    have hsv23:SlR enR [b,mb] w23 sv []:=hsv22.step c23 (fun y hy=>.inl hy) (fun y hy=>.inl hy)
    have hmv23:SlR enR [b,mb] w23 mv m:=hmv22.step c23 (fun y hy=>.inl hy) (fun y hy=>.inl hy)
    repeat (first|refine go1 ?_|refine zg λ_ _=>?_|refine zi λ_ _=>?_)
    refine zC (d:=some 103) rfl (fF _ (hg.ext x023)) ?_
    rintro _ w24 ⟨rfl,x24⟩
    have r724:=Row.ext x24 r723
    have hb0:(jF [] m []).1=false:=aLe CG.nil gn.nodup ⟨x,hxm,fun e=>by cases e⟩
    repeat (first|refine go1 ?_|refine zg λ_ _=>?_|refine zi λ_ _=>?_)
    refine zC (d:=some 111) rfl (aCt (l:= []) (spent:= []) (made:=m) _ (S23.ext x24) (hsv23.ext x24) (hmv23.ext x24) (by simp) (by omega) hb0) ?_
    rintro _ w25 ⟨rfl,x25⟩
    have r725:=Row.ext x25 r724
    repeat (first|refine go1 ?_|refine zg λ_ _=>?_|refine zi λ_ _=>?_)
    refine zC (d:=some 116) rfl (aJz _ o12.1 o12.2) ?_
    rintro _ w26 ⟨rfl,x26⟩
    repeat (first|refine go1 ?_|refine zg λ_ _=>?_|refine zi λ_ _=>?_)
    exact aB rfl ⟨rfl,(x023.trans x24).trans (x25.trans x26)⟩
  ·repeat (first|refine zG (d:=some 30) (E:=enR) (M:= [b,mb]) (l:=m) rfl hmv9 ?_|refine aG (d:=some 31) (.bool true) rfl (congrArg (fun b=>some (Value.bool b)) (dTr (by omega))) ?_|refine go1 ?_|refine zg λ_ _=>?_|refine zi λ_ _=>?_)
   refine zC (d:=some 33) rfl (fF _ (hg.ext x09)) ?_
   rintro _ w10 ⟨rfl,x10⟩
   repeat (first|refine go1 ?_|refine zg λ_ _=>?_|refine zi λ_ _=>?_)
   exact aB rfl ⟨rfl,x09.trans x10⟩
 ·obtain ⟨et,eu,rfl⟩:=E8.nilD.2 h0
  repeat (first|refine go1 ?_|refine zg λ_ _=>?_|refine zi λ_ _=>?_)
  refine zC (d:=some 33) rfl (fF _ (hg.ext x09)) ?_
  rintro _ w10 ⟨rfl,x10⟩
  repeat (first|refine go1 ?_|refine zg λ_ _=>?_|refine zi λ_ _=>?_)
  exact aB rfl ⟨rfl,x09.trans x10⟩
end
end Go.Proofs.YtgloknkcfchnlaaGreatDoor
