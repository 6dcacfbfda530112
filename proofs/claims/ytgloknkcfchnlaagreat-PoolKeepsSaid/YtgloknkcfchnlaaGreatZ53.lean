/- The walk of PoolKeeps. The walk of PoolKeeps, of any number  -/
import Derived.Test.YtgloknkcfchnlaaGreatZ38
set_option linter.unusedVariables false
set_option linter.unusedSimpArgs false
namespace Go.Proofs.YtgloknkcfchnlaaGreat
section
open Go Go.K
theorem bM8 {M:List Nat} {b:Nat} {w:World} (h:w.heap.size≤b):∀x∈b::M,x∈M∨w.heap.size≤x:=fun x hx=>by
 rcases List.mem_cons.1 hx with rfl|hx
 ·exact .inr h
 ·exact .inl hx
theorem Gr.ents {w:World} {B g:Nat} {M:List Nat} {l:List Ent} (h:Gr w B g M l):(∀x∈l,EntOk x)∧(l.map (·.id)).Nodup∧(∀b∈M,b<w.heap.size)∧(∀b∈M,B≤b):=⟨h.ok,h.nodup,h.lt,h.base⟩
def jB (l:List Ent):List Pt:=l.flatMap fun x=>bA x.tx
theorem bLm {l:List Ent} (hE:∀x∈l,EntOk x) (ha:l.Pairwise fun x y=>∀p,spends x p=true→spends y p=false):(jB l).Nodup:=by
 induction l with
 |nil=>exact List.nodup_nil
 |cons x l ih=>
  rw [List.pairwise_cons] at ha
  unfold jB
  rw [List.flatMap_cons,List.nodup_append]
  refine ⟨aH5 (hE x (by simp)).check,ih (fun y hy=>hE y (by simp [hy])) ha.2,fun a h1 b h2 e=>?_⟩
  subst e
  obtain ⟨y,hy,h3⟩:=List.mem_flatMap.1 h2
  have sp:∀(z:Ent),a∈bA z.tx→spends z a=true:=fun z hz=>by
   obtain ⟨b,hb,e⟩:=List.mem_map.1 hz
   exact List.any_eq_true.2 ⟨b,hb,dTr e⟩
  have h4:=ha.1 y hy a (sp x h1)
  rw [sp y h3] at h4;cases h4
theorem aNj {l:List Ent} {j:Nat} (hj:j<l.length):jB (l.take (j+1))=jB (l.take j)++bA l[j].tx:=by
 unfold jB
 rw [List.take_succ_eq_append_getElem hj,List.flatMap_append,List.flatMap_cons,List.flatMap_nil,List.append_nil]
theorem bMp {l:List Ent} (h:(jB l).Nodup) {j k:Nat} (hj:j<l.length) (hk:k<l[j].tx.ins.length):l[j].tx.ins[k].p∉jB (l.take j)++(bA l[j].tx).take k:=by
 have hkp:k<(bA l[j].tx).length:=by simpa [bA] using hk
 have e:(bA l[j].tx)[k]=l[j].tx.ins[k].p:=by simp [bA]
 have h1:(jB (l.take j)++(bA l[j].tx).take (k+1)).Nodup:=by
  refine h.sublist ?_
  have h2:(jB (l.take (j+1))).Sublist (jB l):=by
   have:jB l=jB (l.take (j+1))++jB (l.drop (j+1)):=by
    unfold jB
    rw [←List.flatMap_append,List.take_append_drop]
   rw [this];exact List.sublist_append_left _ _
  refine List.Sublist.trans ?_ h2
  rw [aNj hj]
  exact List.Sublist.append (List.Sublist.refl _) (List.take_sublist _ _)
 rw [List.take_succ_eq_append_getElem hkp,←List.append_assoc,List.nodup_append] at h1
 intro hm
 exact h1.2.2 _ hm (bA l[j].tx)[k] (by simp) e.symm
attribute [local irreducible] aF aP bG KOp.wp K.Spec u32 leS vnS str aR dE bS idT aO aE aQ idN bB cH bY bT cE eO bF cI aK kI fP qT mQ bV evL inS inB jH fY jR gY gT nU gC dN gD dZ jN cF bU aV bK dU cG cN dB bE gL bQ cX nS
abbrev bEl (b:Nat) (h rate:Int):List Value:= [.iface T.P_coins_Set (.pointer (some ⟨b,0,none⟩)),.int .i64 h,.int .i64 rate]
set_option maxHeartbeats 4000000 in
theorem bH4 {v u:Value} {vals:List Int} {sc:List PSm} {rn:Nat} (w:World) (hvals:SlR aLx [] w v vals) (hr:∀a∈vals,0≤a∧a≤65535) (hsc:SlR jK [] w u sc) (hrn:rn≤65535):
  K.Spec Tryz.prog F.kedgelaw17_PoolKeeps [v,u,.int .u16 (rn:Nat)] w fun r w'=>r=.bool true∧Ext w w':=by
 refine aB0 rfl ?_
 unfold qO
 refine oy ?_
 repeat' (first|(refine zC (d:=some 33) rfl (lX _ hvals hr) ?_;rintro vV w2 ⟨hv2,hb2,x2⟩)|refine go1 ?_|refine zg λ_ _=>?_|refine zi λ_ _=>?_)
 have hc8:CoinsOk (gL vals (min vals.length 8)) 8:=(rY hr _).more (by omega)
 generalize gL vals (min vals.length 8)=V at hv2 hc8
 repeat' (first|(refine zC (d:=some 35) rfl (aBz _ hv2 hc8 (by decide)) ?_;rintro _ w3 ⟨b,mb,rfl,hS3,hb3,hmb3,x3⟩)|refine go1 ?_|refine zg λ_ _=>?_|refine zi λ_ _=>?_)
 refine zC rfl (aBh _) ?_
 rintro _ w4 ⟨g,M0,rfl,G4,x4⟩
 repeat' (first|refine aD (d:=some 40) (.int .i64 (rn:Nat)) rfl (congrArg (fun n=>some (Value.int .i64 n)) (IntWalk.i64_in _ (by omega))) ?_|refine aD2 (d:=some 41) (n:=rn) (m:=5000) rfl rfl (by decide) ?_|(refine zE (d':=10) (fun _=>rfl) rfl rfl rfl (fun bs w5 x5 a5 (r5:Row w5 ⟨bs,0,none⟩ (bEl b 9 ((rn%5000:Nat):Int))) hbs5=>?_))|refine zG (d:=some 45) (E:=jK) (M:= []) (l:=sc) rfl (SlR.ext hsc (by exact fx)) ?_|refine aH3 (d:=some 46) rfl rfl ?_|refine tE (d:=some 47) (E:=jK) (n:=min sc.length 16) rfl rfl (by omega) hsc (by omega) rfl (fun v' hv'=>?_)|refine zG (d:=some 48) (E:=jK) (M:= []) (l:=sc.take (min sc.length 16)) rfl (SlR.ext hv' (by exact fx)) ?_|refine go1 ?_|refine zg λ_ _=>?_|refine zi λ_ _=>?_)
 have hSl:(sc.take (min sc.length 16)).length≤16:=by rw [List.length_take];omega
 generalize sc.take (min sc.length 16)=S at*
 obtain ⟨rt,hrt⟩:∃rt:Int,rt=((rn%5000:Nat):Int):=⟨_,rfl⟩
 rw [←hrt] at r5
 have hB4:=G4.base
 have l5:=a5.lt
 have s34:=x4.size
 have s45:=x5.size
 have x35:Unit→Ext w3 w5:=fun _=>x4.trans x5
 have x05:Unit→Ext w w5:=fun _=>by exact fx
 have hM04:=G4.lt
 have hbs0:bs∉M0:=fun h=>by have:=hM04 bs h;omega
 have G5:=G4.ext x5
 have hv3:=hv2.ext x3
 have s23:=x3.size
 have hS3':=hS3
 have s03:w.heap.size≤w3.heap.size:=Ext.size (show Ext w w3 by exact fx)
 clear x2 x4 x3 x5 a5 G4 hM04 hS3
 have hV:∀{w'},Ext w3 w'→eH w' (.iface T.P_coins_Set (.pointer (some ⟨b,0,none⟩))) (aL V):=fun x=>eH.of_set (hS3'.ext x) (fun e he=>by rw [(hc8.each e he).2.2.2.2.1];decide)
 repeat' (first|(refine aI (a:=.seq _ (.seq (.cond _ _ _) (.seq (.block 1 _) _))) (fun (p:Nat × List Ent × List Nat) w'=>Ext w3 w'∧Ext w w'∧p.1≤S.length∧p.2.1.length≤p.1∧Gr w' w3.heap.size g p.2.2 p.2.1∧Row w' ⟨bs,0,none⟩ (bEl b 9 rt)∧bs∉p.2.2∧bs<w'.heap.size∧Keep (aL V) rt p.2.1∧Money V p.2.1 9 (nS p.1)) (fun p=> [(2,.int .u16 (rn:Nat)),(7,vV),(8,.pointer (some ⟨b,0,none⟩)),(9,.pointer (some ⟨g,0,none⟩)),(10,.pointer (some ⟨bs,0,none⟩)),(47,v'),(48,.int .i64 (S.length:Nat)),(49,.int .i64 p.1)]) (fun p=>S.length - p.1) (0, [],M0) ⟨rfl,rfl,rfl,rfl,rfl,rfl,rfl,rfl,trivial⟩ ⟨x35 (),x05 (),by simp,by simp,G5,r5,hbs0,l5,Keep.nil _ _,aVz hc8 9⟩ ?_;rintro ⟨i,l,M⟩ ρ w6 ⟨x36,x06,hi,hli,G6,r6,hbsM,lbs,hK,hMon⟩;simp only at hi hli G6 hbsM hK hMon;dsimp only)|refine zL (x:=.tmp 50) (p:=((i:Nat):Int)<((S.length:Nat):Int)) rfl (fun h5=>?_) (fun h5=>?_)|refine go1 ?_|refine zg λ_ _=>?_|refine zi λ_ _=>?_)
 ·clear G5 r5
  have hil:i<S.length:=by omega
  have hlen:l.length≤1000:=by omega
  obtain ⟨hE6,hnd6,hM6,hB6⟩:=Gr.ents G6
  obtain ⟨hV1,hV2,hV3⟩:=aB6 hc8 (by decide) hE6 hlen hMon
  have hmb:=wT (i:=i) (by omega)
  refine aM (d:=some 51) (E:=jK) (M:=M) rfl rfl (n:=i) (l:=S) (SlR.step hv' x06 (by simp) (fun b hb=>.inr (by have:=hB6 b hb;omega))) rfl hil (fun ad cs r7 he=>?_)
  obtain ⟨fv,rfl,q6,q2⟩:=he
  generalize S[i]=z at*
  obtain ⟨t,ht⟩:∃t,t=bE (cX V l 9) z:=⟨_,rfl⟩
  have hsmt:t.Sm:=by rw [ht];exact jY _ _
  repeat' (first|refine zE (d':=12) (fun _=>rfl) rfl rfl (by obtain ⟨_,_,rfl⟩:=q6.form;rfl) (fun b12 w7 x7 a12 (r12:Row w7 ⟨b12,0,none⟩ (gF z fv)) hb12=>?_)|refine zg (fun w9 x9=>?_)|refine dJ (b:=.cons ⟨none,.storeN _ _ _,_⟩ _) (fun (p:Nat × List Value) w'=>Ext w6 w'∧At w' p.1 (.cells zTx.toArray T.api_Tx (0,0))∧w6.heap.size≤p.1∧txR.rel (p.1::M) w' p.2 t) (fun p=> [(2,.int .u16 (rn:Nat)),(7,vV),(8,.pointer (some ⟨b,0,none⟩)),(9,.pointer (some ⟨g,0,none⟩)),(10,.pointer (some ⟨bs,0,none⟩)),(47,v'),(48,.int .i64 (S.length:Nat)),(49,.int .i64 i),(13,.pointer (some ⟨p.1,0,none⟩)),(58,.agg p.2.toArray)]) ?_ ?_|(rintro ⟨b13,p⟩ ρ9 w10 ⟨x610,a13,hb13,t10⟩;simp only at a13 hb13 t10;dsimp only)|refine zB ?_ ?_|(refine zC (d:=some 55) rfl (eK (M:=M) (l:=l) _ (G6.ext (by exact fx)).r (fun b hb=>nLt (hM6 b hb) (Ext.size (by exact fx))) (by omega)) ?_;rintro u55 w55 ⟨o55,x55⟩;have o55:=(o55.sub (M':= []) (by simp)).sl (by simp))|(refine zC (d:=some 56) rfl (kY (M:= []) (V:=V) (l:=l) 9 _ (SlE.ext (w:=w3) (x36.trans (by exact fx)) hv3) (o55.ext (by exact fx)) (by have:=hc8.len;omega) hlen (fun x hx=>lG (hE6 x hx))) ?_;rintro v56 w56 ⟨o56,x56⟩;have o56:=o56.sl)|refine zH (d:=some 13) (fun b13 w13 x13 a13 hb13=>?_)|(refine zC (d:=some 58) rfl (gQ (M:=b13::M) (V:=cX V l 9) (z:=z) (B:=nS i) _ (SlE.ext (w:=w56) (by exact fx) o56) ⟨fv,rfl,q6.step (show Ext w6 _ by exact fx) (by simp) (bM8 (nTr (Ext.size (show Ext w6 _ by exact fx)) hb13)),q2⟩ hV3 hV1 ⟨hmb.1,by have:=hmb.2;omega⟩ hV2 (fun x hx=>by rcases List.mem_cons.1 hx with rfl|hx;exact nLt a13.lt (Ext.size (by exact fx));exact nLt (hM6 x hx) (Ext.size (by exact fx)))) ?_;rintro _ w58 ⟨p,rfl,tA,x58⟩;have tA:=txO.rel tA (fun x hx=>by rcases List.mem_cons.1 hx with rfl|hx;exact nLt a13.lt (Ext.size (by exact fx));exact nLt (hM6 x hx) (Ext.size (by exact fx)));rw [←ht] at tA)|(refine zC (d:=some 58) rfl (gQ (M:=M) (V:=cX V l 9) (z:=z) (B:=nS i) _ (SlE.ext (w:=w56) (by exact fx) o56) ⟨fv,rfl,q6.step (show Ext w6 _ by exact fx) (by simp) (fun _ h=>.inl h),q2⟩ hV3 hV1 ⟨hmb.1,by have:=hmb.2;omega⟩ hV2 (fun x hx=>nLt (hM6 x hx) (Ext.size (by exact fx)))) ?_;rintro _ w58 ⟨p,rfl,tB,x58⟩;have tB:=txO.rel tB (fun x hx=>nLt (hM6 x hx) (Ext.size (by exact fx)));rw [←ht] at tB)|(exact ⟨(b13,p),⟨rfl,rfl,rfl,rfl,rfl,rfl,rfl,rfl,rfl,rfl,trivial⟩,by exact fx,At.ext (by exact fx) a13,nTr (Ext.size (show Ext w6 _ by exact fx)) hb13,R.ext tA (by exact fx)⟩)|(exact ⟨(b13,p),⟨rfl,rfl,rfl,rfl,rfl,rfl,rfl,rfl,rfl,rfl,trivial⟩,by exact fx,At.ext (by exact fx) a13,nTr (Ext.size (show Ext w6 _ by exact fx)) hb13,R.step txR tB (show Ext w58 _ by exact fx) (by simp) (bM8 hb13)⟩)|refine go1 ?_|refine zg λ_ _=>?_|refine zi λ_ _=>?_)
  have t10':=t10
  obtain ⟨iv,ov,rfl,hti,hto,htv⟩:=t10
  refine bX (b:=b13) (cur:=zTx) (vs:=aJ t iv ov) rfl rfl rfl (txR.one t10') a13 rfl (fun w11 c11 a11=>?_)
  have s610:=x610.size
  have t11:txR.rel (b13::M) w11 (aJ t iv ov) t:=R.step txR t10' c11 (by intro y hy;simp at hy;subst hy;exact .inl (by simp)) (fun _ h=>.inl h)
  have l13:=a13.lt
  have s11:=c11.size
  have x611:Ext w6 w11:=(Ext.chg x610 c11).mono (by intro y hy;simp at hy;right;omega)
  have hN11:∀b∈b13::M,b<w11.heap.size:=fun x hx=>by
   rcases List.mem_cons.1 hx with rfl|hx
   ·omega
   ·have:=hM6 x hx;omega
  have n13:b13∉M:=fun h=>by have:=hM6 _ h;omega
  have G11:=G6.ext x611
  have r11:Row w11 ⟨b13,0,none⟩ (aJ t iv ov):=Row.of_at a11
  have rs11:=Row.ext x611 r6
  have x311:=x36.trans x611
  have x011:=x06.trans x611
  clear x7 a12 r12 hb12 x9 x610 a13 t10' c11 hti hto x611 r7 x36 x06
  repeat' (first|(refine zC (d:=some 60) rfl (eK (M:=M) (l:=l) _ (G11.ext (by exact fx)).r (fun b hb=>nLt (hN11 b (by simp [hb])) (Ext.size (by exact fx))) (by omega)) ?_;rintro u12 w12 ⟨o12,x12⟩;have o12:=(o12.sub (M':= []) (by simp)).sl (by simp))|refine zG (d:=some 61) (E:=dC) (M:= []) (l:=l) rfl o12 ?_|refine go1 ?_|refine zg λ_ _=>?_|refine zi λ_ _=>?_)
  refine zC (d:=some 66) rfl (pL (M:=M) (N:=b13::M) (l:=l) (f:=aL V) (t:=t) 9 rt _ (G11.ext (by exact fx)) (hV (x311.trans (by exact fx))) (R.ext t11 (by exact fx)) hsmt (fun b hb=>nLt (hN11 b hb) (Ext.size (by exact fx))) (fun b hb=>by simp [hb]) hlen (fun x hx=>by have:=hMon.fee x hx;omega)) ?_
  rintro _ w14 ⟨u14,er,M1,rfl,hu14,he14,G14,c14,hM14,hdis⟩
  have hcase:(er=.nilIface∧(cN (aL V) l t 9 rt).length+(cG (aL V) l t 9 rt).length=l.length+1)∨(∃a b,er=.iface a b∧cG (aL V) l t 9 rt= []∧cN (aL V) l t 9 rt=l):=by
   by_cases h0:(dU (aL V) l t 9 rt).1=0
   ·exact .inl ⟨(he14.nil_iff.1 h0).1,aVr hnd6 h0⟩
   ·obtain ⟨a,b,e⟩:=he14.nil_iff.2 h0
    exact .inr ⟨a,b,e,(uG h0).1,(uG h0).2⟩
  have hgone:∀s∈cG (aL V) l t 9 rt,eU (cN (aL V) l t 9 rt) s=false:=fun s hs=>bLa hnd6 hs
  have hK14:Keep (aL V) rt (cN (aL V) l t 9 rt):=hK.acc hnd6
  have hMon14:Money V (cN (aL V) l t 9 rt) 9 (nS (i+1)):=hMon.step hc8 hnd6 hE6 hlen ht
  have hll:(cN (aL V) l t 9 rt).length≤l.length+1:=aHq hnd6
  clear he14
  generalize cN (aL V) l t 9 rt=l' at*
  generalize cG (aL V) l t 9 rt=ids at*
  have s612:=x12.size
  have x314:Unit→Ext w3 w14:=fun _=>(Ext.chg (x311.trans x12) c14).mono (fun b hb=>.inr (hB6 b hb))
  have x014:Unit→Ext w w14:=fun _=>(Ext.chg (x011.trans x12) c14).mono (fun b hb=>.inr (by have:=hB6 b hb;omega))
  have rs14:Row w14 ⟨bs,0,none⟩ (bEl b 9 rt):=Row.chg c14 (Row.ext x12 rs11) hbsM
  have s1214:=c14.size
  have n14:bs∉M1:=fun h=>by
   rcases hM14 _ h with h|h
   ·exact hbsM h
   ·omega
  obtain ⟨hE14,hnd14,hM14',hB14⟩:=Gr.ents G14
  have hu:=hu14.sl
  clear x12 x311 x011 rs11 r11 t11 G11 a11 o12 c14 G6 hV1 hV2
  repeat' (first|refine lD (a:=.seq (.reg false (.cons ⟨some 69,_,none⟩ _)) _) (fun (_:Unit) w'=>Ext w14 w') (fun _=> [(2,.int .u16 (rn:Nat)),(7,vV),(8,.pointer (some ⟨b,0,none⟩)),(9,.pointer (some ⟨g,0,none⟩)),(10,.pointer (some ⟨bs,0,none⟩)),(47,v'),(48,.int .i64 (S.length:Nat)),(49,.int .i64 i),(15,u14)]) ?_ ?_|(rintro _ ρ15 w15 x15)|refine go1 ?_|refine zg λ_ _=>?_|refine zi λ_ _=>?_)
  ·have hl'1:l'.length≤1000:=by omega
   rcases hcase with ⟨rfl,hlen'⟩|⟨ea,eb,rfl,hids,hl'⟩
   ·repeat' (first|(refine zC (d:=some 88) rfl (eK (M:=M1) (l:=l') _ (G14.ext (by exact fx)).r (fun b hb=>nLt (hM14' b hb) (Ext.size (by exact fx))) (by omega)) ?_;rintro u15 w15 ⟨o15,x15⟩;have o15:=(o15.sub (M':= []) (by simp)).sl (by simp))|refine zG (d:=some 89) (E:=dC) (M:= []) (l:=l') rfl o15 ?_|refine aY (d:=some 93) rfl (SlE.ext (w:=w14) (by exact fx) hu) ?_|refine aD (d:=some 95) (.bool false) rfl (congrArg (fun b=>some (Value.bool (!b))) (dTr (by omega))) ?_|refine go1 ?_|refine zg λ_ _=>?_|refine zi λ_ _=>?_)
    exact ⟨(),⟨rfl,rfl,rfl,rfl,rfl,rfl,rfl,rfl,rfl,trivial⟩,by exact fx⟩
   ·have h0:ids.length=0:=by rw [hids];rfl
    have h1:l'.length=l.length:=by rw [hl']
    repeat' (first|refine aY (d:=some 73) rfl (SlE.ext (w:=w14) (by exact fx) hu) ?_|refine aD (d:=some 74) (.bool false) rfl (congrArg (fun b=>some (Value.bool b)) (dFa (by omega))) ?_|(refine zC (d:=some 77) rfl (eK (M:=M1) (l:=l') _ (G14.ext (by exact fx)).r (fun b hb=>nLt (hM14' b hb) (Ext.size (by exact fx))) (by omega)) ?_;rintro u15 w15 ⟨o15,x15⟩;have o15:=(o15.sub (M':= []) (by simp)).sl (by simp))|refine zG (d:=some 78) (E:=dC) (M:= []) (l:=l') rfl o15 ?_|refine aD (d:=some 80) (.bool false) rfl (congrArg (fun b=>some (Value.bool (!b))) (dTr (by omega))) ?_|refine go1 ?_|refine zg λ_ _=>?_|refine zi λ_ _=>?_)
    exact ⟨(),⟨rfl,rfl,rfl,rfl,rfl,rfl,rfl,rfl,rfl,trivial⟩,by exact fx⟩
  ·have hidl:ids.length≤1001:=by
    rcases hcase with ⟨-,h⟩|⟨_,_, -,h, -⟩
    ·omega
    ·rw [h];simp
   clear hcase
   repeat' (first|refine aY (d:=some 99) rfl (SlE.ext (w:=w14) (by exact fx) hu) ?_|refine go1 ?_|refine zg λ_ _=>?_|refine zi λ_ _=>?_)
   refine aI (a:=.seq _ (.seq (.cond _ _ _) (.seq (.block 3 _) _))) (fun (k:Nat) w'=>Ext w14 w'∧k≤ids.length) (fun k=> [(2,.int .u16 (rn:Nat)),(7,vV),(8,.pointer (some ⟨b,0,none⟩)),(9,.pointer (some ⟨g,0,none⟩)),(10,.pointer (some ⟨bs,0,none⟩)),(47,v'),(48,.int .i64 (S.length:Nat)),(49,.int .i64 i),(98,u14),(99,.int .i64 (ids.length:Nat)),(100,.int .i64 k)]) (fun k=>ids.length - k) 0 ⟨rfl,rfl,rfl,rfl,rfl,rfl,rfl,rfl,rfl,rfl,rfl,trivial⟩ ⟨x15,by simp⟩ ?_
   clear x15
   rintro k ρ16 w16 ⟨x16,hk⟩
   repeat (first|refine go1 ?_|refine zg λ_ _=>?_|refine zi λ_ _=>?_)
   refine zL (x:=.tmp 101) (p:=((k:Nat):Int)<((ids.length:Nat):Int)) rfl (fun h6=>?_) (fun h6=>?_)
   ·repeat (first|refine go1 ?_|refine zg λ_ _=>?_|refine zi λ_ _=>?_)
    refine aS (d:=some 102) (E:=bL) rfl rfl (n:=k) (l:=ids) (SlE.ext (w:=w14) (by exact fx) hu) rfl (by omega) (fun ad r17=>?_)
    have hkl:k<ids.length:=(by omega)
    have r17:Row w16 ad [Value.string ids[k]]:=r17
    repeat (first|refine go1 ?_|refine zg λ_ _=>?_|refine zi λ_ _=>?_)
    refine zC (d:=some 107) rfl (lQ (M:=M1) (l:=l') ids[k] _ (G14.ext (by exact fx)).r (fun b hb=>nLt (hM14' b hb) (Ext.size (by exact fx)))) ?_
    rintro _ w18 ⟨ds,rfl,ho18,x18⟩
    obtain ⟨iv8,ov8,rfl,p81,p82, -⟩:=ho18
    have e81:=p81.one
    have e82:=p82.one
    repeat' (first|refine zE (d':=19) (fun _=>rfl) rfl rfl (by show List.all (bC _ _ _) _=true;simp [bC,e81,e82];exact ⟨rfl,rfl,rfl,rfl,rfl⟩) (fun b19 w19 x19 a19 r19 hb19=>?_)|refine wK (x:=.tmp 110) (congrArg Value.bool (hgone _ (gMe hkl))) ?_|refine go1 ?_|refine zg λ_ _=>?_|refine zi λ_ _=>?_)
    exact ⟨k+1,⟨rfl,rfl,rfl,rfl,rfl,rfl,rfl,rfl,rfl,rfl,rfl,trivial⟩,⟨by exact fx,by omega⟩,by omega⟩
   ·repeat (first|refine go1 ?_|refine zg λ_ _=>?_|refine zi λ_ _=>?_)
    exact ⟨(i+1,l',M1),⟨rfl,rfl,rfl,rfl,rfl,rfl,rfl,rfl,trivial⟩,⟨(x314 ()).trans (by exact fx),(x014 ()).trans (by exact fx),by simp;omega,by simp;omega,G14.ext (by exact fx),Row.ext (by exact fx) rs14,n14,by have:=Ext.size (show Ext w14 w16 by exact fx);omega,hK14,hMon14⟩,by simp;omega⟩
 ·clear G5 r5
  have hlen:l.length≤1000:=by omega
  obtain ⟨hE6,hnd6,hM6,hB6⟩:=Gr.ents G6
  have hap:=GrR.apart G6.r
  have hnod:=bLm hE6 hap
  have hS6:=hS3'.ext x36
  have hfee:∀x∈l,(((max 1000 (rn%5000))*aO x.tx+999) / 1000:Nat)≤x.fee:=fun x hx=>by
   have h1:=hK.pays x hx
   rw [hrt] at h1
   unfold dB at h1
   have e:(min (max ((rn%5000:Nat):Int) 1000) 100000000).toNat=max 1000 (rn%5000):=by omega
   rw [e] at h1;exact h1
  have hsrc:=hK.src
  have hmmw:w.heap.size≤w6.heap.size:=x06.size
  clear hK hMon hvals hsc hb2 hv2 hv3 hV hv' hSl s34 s45 x35 x05 hbs0 hB4 hbs5 l5 hb3 hmb3 s23 s03 r6 hbsM lbs hi hli x36 hc8 hS3'
  have hR:max (1000:Int) ((rn%5000:Nat):Int)=((max 1000 (rn%5000):Nat):Int):=by omega
  repeat' (first|refine iQ (d:=some 113) (E:=ptK) (fv:=fun n:Nat=>Value.int .i64 (n:Nat)) (fun mm w7 x7 hm7 hmm=>?_)|refine go1 ?_|refine zg λ_ _=>?_|refine zi λ_ _=>?_)
  refine zC (d:=some 115) rfl (eK (M:=mm::M) (l:=l) _ (GrR.more G6.r (show Ext w6 w7 by exact fx) (bM8 hmm)) (fun b hb=>by have:=x7.size;rcases List.mem_cons.1 hb with rfl|hb;exact hm7.lt;have:=hM6 b hb;omega) (by omega)) ?_
  rintro u15 w15 ⟨o15,x15⟩
  have lmm:=hm7.lt
  have o15:=o15.slB (fun b hb=>by have:=x7.size;rcases List.mem_cons.1 hb with rfl|hb;exact lmm;have:=hM6 b hb;omega)
  have x615:Ext w6 w15:=x7.trans x15
  clear x7
  have hm15:=hm7.ext x15
  clear hm7
  clear x15
  repeat' (first|refine zG (d:=some 116) (E:=dC) (M:=mm::M) (l:=l) rfl o15 ?_|refine go1 ?_|refine zg λ_ _=>?_|refine zi λ_ _=>?_)
  refine aI (a:=.seq _ (.seq (.cond _ _ _) (.seq (.block 5 _) _))) (fun (p:Nat × List (Pt × Nat)) w'=>Ext w6 w'∧w15.heap.size≤w'.heap.size∧p.1≤l.length∧dI ptK (fun n:Nat=>Value.int .i64 (n:Nat)) w' mm p.2∧SlR dC (mm::M) w' u15 l∧∀q,aL p.2 q=if q∈jB (l.take p.1) then some 1 else none) (fun p=> [(2,.int .u16 (rn:Nat)),(8,.pointer (some ⟨b,0,none⟩)),(9,.pointer (some ⟨g,0,none⟩)),(21,.map (some mm)),(115,u15),(116,.int .i64 (l.length:Nat)),(117,.int .i64 p.1)]) (fun p=>l.length - p.1) (0, []) ⟨rfl,rfl,rfl,rfl,rfl,rfl,rfl,trivial⟩ ⟨x615,Nat.le_refl _,by simp,hm15,o15,by simp [aL,jB]⟩ ?_
  clear x615 hm15 o15
  rintro ⟨j,mt⟩ ρ8 w8 ⟨x68,s158,hj,hm8,o8,hk8⟩
  simp only at hj hm8 hk8
  dsimp only
  repeat (first|refine go1 ?_|refine zg λ_ _=>?_|refine zi λ_ _=>?_)
  refine zL (x:=.tmp 118) (p:=((j:Nat):Int)<((l.length:Nat):Int)) rfl (fun h6=>?_) (fun h6=>?_)
  ·repeat (first|refine go1 ?_|refine zg λ_ _=>?_|refine zi λ_ _=>?_)
   refine aM (d:=some 119) (E:=dC) (M:=mm::M) rfl rfl (n:=j) (l:=l) o8 rfl (by omega) (fun ad cs r9 he=>?_)
   have hjl:j<l.length:=(by omega)
   obtain ⟨iv,ov,rfl,g1,g2,g3⟩:=he
   have hEj:=hE6 _ (gMe hjl)
   have hfj:=hfee _ (gMe hjl)
   have hzj:=(cB (lE hEj.check) hEj.check).sizeM
   have hzz:=hEj.size
   have hej1:iv.oneCell'=true:=(by obtain ⟨_,_,rfl⟩:=g1.form;rfl)
   have hej2:ov.oneCell'=true:=(by obtain ⟨_,_,rfl⟩:=g2.form;rfl)
   repeat' (first|refine zE (d':=23) (fun _=>rfl) rfl rfl (by show List.all (bC _ _ _) _=true;simp [bC,hej1,hej2];exact ⟨rfl,rfl,rfl,rfl,rfl⟩) (fun b23 w23 x23 a23 (r23:Row w23 ⟨b23,0,none⟩ (bC l[j] iv ov)) hb23=>?_)|refine aD (d:=some 123) (.int .i64 (rn:Nat)) rfl (congrArg (fun n=>some (Value.int .i64 n)) (IntWalk.i64_in _ (by omega))) ?_|refine aD2 (d:=some 124) (n:=rn) (m:=5000) rfl rfl (by decide) ?_|(refine aQj (d:=some 125) (a:=1000) (b:=((rn%5000:Nat):Int)) rfl rfl ?_;rw [hR])|refine go1 ?_|refine zg λ_ _=>?_|refine zi λ_ _=>?_)
   refine zC (d:=some 128) (congrArg (fun n=> [Value.int .i64 ((max 1000 (rn%5000):Nat):Int),Value.int .i64 n]) hzz) (aA6 (max 1000 (rn%5000)) (aO l[j].tx) (by omega) (by omega) _) ?_
   rintro _ w24 ⟨rfl,x24⟩
   repeat' (first|refine wK (x:=.tmp 138) (congrArg Value.bool (dFa (by omega))) ?_|refine zG (d:=some 142) (E:=inR) (M:=mm::M) (l:=l[j].tx.ins) rfl (SlR.ext g1 (by exact fx)) ?_|refine go1 ?_|refine zg λ_ _=>?_|refine zi λ_ _=>?_)
   refine aI (a:=.seq _ (.seq (.cond _ _ _) (.seq (.block 7 _) _))) (fun (p:Nat × List (Pt × Nat)) w'=>Ext w6 w'∧w15.heap.size≤w'.heap.size∧p.1≤l[j].tx.ins.length∧dI ptK (fun n:Nat=>Value.int .i64 (n:Nat)) w' mm p.2∧SlR dC (mm::M) w' u15 l∧SlR inR (mm::M) w' iv l[j].tx.ins∧∀q,aL p.2 q=if q∈jB (l.take j)++(bA l[j].tx).take p.1 then some 1 else none) (fun p=> [(2,.int .u16 (rn:Nat)),(8,.pointer (some ⟨b,0,none⟩)),(9,.pointer (some ⟨g,0,none⟩)),(21,.map (some mm)),(115,u15),(116,.int .i64 (l.length:Nat)),(117,.int .i64 j),(141,iv),(142,.int .i64 (l[j].tx.ins.length:Nat)),(143,.int .i64 p.1)]) (fun p=>l[j].tx.ins.length - p.1) (0,mt) ⟨rfl,rfl,rfl,rfl,rfl,rfl,rfl,rfl,rfl,rfl,trivial⟩ ⟨x68.trans (by exact fx),nTr s158 (Ext.size (by exact fx)),by simp,hm8.ext (by exact fx),o8.ext (by exact fx),g1.ext (by exact fx),by simpa using hk8⟩ ?_
   clear r9 g1 g2 a23 r23 x23 x24 hb23 o8 hm8 hk8 x68 o15
   clear ρ8
   rintro ⟨k,mk⟩ ρ8 w30 ⟨x630,s30,hk,hm30,o30,i30,hk30⟩
   simp only at hk hm30 hk30
   dsimp only
   have hnew:=fun h=>bMp hnod (j:=j) (k:=k) hjl h
   have hsrc0:=hsrc _ (gMe hjl)
   clear hfj
   repeat' (first|refine zL (x:=.tmp 144) (p:=((k:Nat):Int)<((l[j].tx.ins.length:Nat):Int)) rfl (fun h7=>?_) (fun h7=>?_)|(refine aM (d:=some 145) (E:=inR) (M:=mm::M) rfl rfl (n:=k) (l:=l[j].tx.ins) i30 rfl (by omega) (fun ad cs r31 he=>?_);have hkl:k<l[j].tx.ins.length:=(by omega);obtain ⟨wv,rfl,hw31,hp31,hq31⟩:=he;have hew:wv.oneCell'=true:=(by obtain ⟨_,_,rfl⟩:=hw31.form;rfl))|refine go1 ?_|refine zg λ_ _=>?_|refine zi λ_ _=>?_)
   ·have hnew:=hnew hkl
    have hpm:l[j].tx.ins[k].p∈bA l[j].tx:=List.mem_map.2 ⟨_,gMe hkl,rfl⟩
    have hsb:(aL V l[j].tx.ins[k].p).isSome=true∨((aL V l[j].tx.ins[k].p).isSome=false∧cV l l[j].tx.ins[k].p=true):=by
     rcases hsrc0 _ hpm with h8|h8
     ·exact .inl h8
     ·cases h9:(aL V l[j].tx.ins[k].p).isSome with
      |true=>exact .inl rfl
      |false=>exact .inr ⟨rfl,h8⟩
    have hkt:k<(bA l[j].tx).length:=by simpa [bA] using hkl
    have hpk:(bA l[j].tx)[k]=l[j].tx.ins[k].p:=by simp [bA]
    have hnone:aL mk l[j].tx.ins[k].p=none:=by rw [hk30,if_neg hnew]
    clear hnew
    repeat' (first|refine zg (fun w37 x37=>?_)|refine zE (d':=27) (fun _=>rfl) rfl rfl (by show List.all (eJ _ _) _=true;simp [eJ,hew];exact ⟨rfl,rfl,rfl⟩) (fun b27 w32 x32 a32 (r32:Row w32 ⟨b27,0,none⟩ (eJ l[j].tx.ins[k] wv)) hb27=>?_)|(refine zC (d:=some 151) rfl (aL7 l[j].tx.ins[k].p _ (hS6.ext (x630.trans (by exact fx)))) ?_;rintro _ w33 ⟨rfl,x33⟩)|refine zE (d':=28) (vs:=(lR V l[j].tx.ins[k].p).cs) (fun _=>rfl) rfl rfl rfl (fun b28 w34 x34 a34 r34 hb28=>?_)|(refine zC (d:=some 158) rfl (aA9 (M:=M) (l:=l) l[j].tx.ins[k].p hp31 _ (G6.ext (x630.trans (by exact fx))).r (fun b hb=>nLt (hM6 b hb) (nTr x630.size (Ext.size (by exact fx))))) ?_;rintro _ w35 ⟨o,rfl, -,x35⟩)|refine zE (d':=30) (vs:=iI o) (fun _=>rfl) rfl rfl rfl (fun b30 w36 x36 a36 r36 hb30=>?_)|refine go1 ?_|refine zg λ_ _=>?_|refine zi λ_ _=>?_)
    have r37:Row w37 ⟨b27,0,none⟩ (eJ l[j].tx.ins[k] wv):=Row.ext (show Ext w32 w37 by exact fx) r32
    have x3037:Ext w30 w37:=by exact fx
    have hinl:=(lE hEj.check).ins
    have hm37:=hm30.ext x3037
    have l27:=a32.lt
    have s3037:=x3037.size
    have lm30:=hm30.lt
    have s3037':w30.heap.size≤b27:=hb27
    clear x32 a32 r32 hb27 x33 x34 a34 r34 hb28 x35 x36 a36 r36 hb30 x37
    repeat' (first|(refine aJt (E:=ptK) (fv:=fun n:Nat=>Value.int .i64 (n:Nat)) (k:=l[j].tx.ins[k].p) 0 rfl rfl rfl hm37 rfl rfl (fun st w4 c4 hP hQ=>?_);have r4:=Row.chg c4 r37 (by simp;omega))|(apply eY (E:=ptK) (fv:=fun n:Nat=>Value.int .i64 (n:Nat)) (k:=l[j].tx.ins[k].p) rfl rfl;(focus(first|exact hM5|exact hQ|exact hm37));(focus rfl);(focus rfl))|(intro v hv;first|(rw [hnone] at hv;cases hv;done)|(rw [qJ,if_pos rfl,hnone] at hv;simp only [Option.getD_none,Option.some.injEq] at hv;subst hv)|(rw [qJ,if_pos rfl] at hv;cases hv))|(intro hv;first|(rw [qJ,if_pos rfl] at hv;cases hv;done)|skip)|(refine yK (E:=ptK) (fv:=fun n:Nat=>Value.int .i64 (n:Nat)) (k:=l[j].tx.ins[k].p) (v:=1) rfl rfl rfl hP (fun w5 c5 hM5=>?_);have r5:=Row.chg c5 r4 (by simp;omega))|refine zB ?_ ?_|refine go1 ?_|refine zg λ_ _=>?_|refine zi λ_ _=>?_)
    all_goals
     have c45:Chg ([mm]++ [mm]) w30 w5:=Ext.chg x3037 (c4.trans c5)
     have s305:=c45.size
     have x65:Ext w6 w5:=(Ext.chg x630 c45).mono (by intro y hy;simp at hy;subst hy;exact .inr hmm)
     have o5:=o30.step c45 (by intro y hy;simp at hy;subst hy;exact .inl (by simp)) (fun _ h=>.inl h)
     have i5:=i30.step c45 (by intro y hy;simp at hy;subst hy;exact .inl (by simp)) (fun _ h=>.inl h)
     have hk5:∀q,aL (fQ mk l[j].tx.ins[k].p 1) q=if q∈jB (l.take j)++(bA l[j].tx).take (k+1) then some 1 else none:=fun q=>by
      rw [qJ,hk30 q,List.take_succ_eq_append_getElem hkt,hpk]
      by_cases e:l[j].tx.ins[k].p=q
      ·rw [if_pos e,if_pos (by rw [←e];simp)]
      ·rw [if_neg e]
       have:q∈jB (l.take j)++((bA l[j].tx).take k++ [l[j].tx.ins[k].p])↔q∈jB (l.take j)++(bA l[j].tx).take k:=by
        simp only [List.mem_append,List.mem_singleton]
        constructor
        ·rintro (h|h|h)
         ·exact .inl h
         ·exact .inr h
         ·exact absurd h.symm e
        ·rintro (h|h)
         ·exact .inl h
         ·exact .inr (.inl h)
       simp only [this]
     rcases hsb with h9|⟨h9,h10⟩
     ·rw [h9]
      repeat' (first|refine go1 ?_|refine zg λ_ _=>?_|refine zi λ_ _=>?_)
      exact ⟨(k+1,fQ mk l[j].tx.ins[k].p 1),⟨rfl,rfl,rfl,rfl,rfl,rfl,rfl,rfl,rfl,rfl,trivial⟩,⟨x65,by omega,by omega,hM5,o5,i5,hk5⟩,by omega⟩
     ·rw [h9,h10]
      repeat' (first|refine go1 ?_|refine zg λ_ _=>?_|refine zi λ_ _=>?_)
      exact ⟨(k+1,fQ mk l[j].tx.ins[k].p 1),⟨rfl,rfl,rfl,rfl,rfl,rfl,rfl,rfl,rfl,rfl,trivial⟩,⟨x65,by omega,by omega,hM5,o5,i5,hk5⟩,by omega⟩
   ·have hkl:k=l[j].tx.ins.length:=by omega
    repeat' (first|refine go1 ?_|refine zg λ_ _=>?_|refine zi λ_ _=>?_)
    exact ⟨(j+1,mk),⟨rfl,rfl,rfl,rfl,rfl,rfl,rfl,trivial⟩,⟨x630,s30,by simp;omega,hm30,o30,by rw [aNj hjl];rw [tLe (l:=bA l[j].tx) (by rw [hkl];simp [bA])] at hk30;exact hk30⟩,by simp;omega⟩
  ·repeat (first|refine go1 ?_|refine zg λ_ _=>?_|refine zi λ_ _=>?_)
   refine zC (d:=some 183) rfl (qI _) ?_
   rintro _ w40 ⟨rfl,x40⟩
   repeat (first|refine go1 ?_|refine zg λ_ _=>?_|refine zi λ_ _=>?_)
   exact aA rfl ⟨rfl,(x06.trans x68).trans x40⟩
end
section
open Go Go.K
theorem bDm {v u:Value} {vals:List Int} {sc:List PSm} {n m:Int} (w:World) (hvals:SlR aLx [] w v vals) (hr:∀a∈vals,0≤a∧a≤65535) (hsc:SlR jK [] w u sc) (he: [Value.int .u16 n]= [Value.int .u16 m]) (hm:0≤m∧m≤65535):
  K.Spec Tryz.prog F.kedgelaw17_PoolKeeps [v,u,.int .u16 n] w fun r w'=>r=.bool true∧Ext w w':=by
 simp only [List.cons.injEq,Value.int.injEq,and_true,true_and] at he
 subst he
 obtain ⟨k,rfl⟩:=Int.eq_ofNat_of_zero_le hm.1
 exact bH4 w hvals hr hsc (by omega)
end
end Go.Proofs.YtgloknkcfchnlaaGreat
