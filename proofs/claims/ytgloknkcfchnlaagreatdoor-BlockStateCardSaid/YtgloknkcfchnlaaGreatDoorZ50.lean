/- The walk of BlockBack. -/
import Derived.Test.YtgloknkcfchnlaaGreatDoorZ48
set_option linter.unusedVariables false
set_option linter.unusedSimpArgs false
section
namespace Go.K
open Go Go.Proofs.YtgloknkcfchnlaaGreatDoor
def yL:R (List En × List En) where
 k:=2
 pos:=by decide
 ag:=true
 rel:=fun M w cs x=>∃sv mv,cs= [sv,mv]∧SlR enR M w sv x.1∧SlR enR M w mv x.2
 len:=fun ⟨_,_,h,_⟩=>by rw [h];rfl
 one:=fun ⟨sv,mv,h,h1,h2⟩ v hv=>by
  obtain ⟨_,_,e1⟩:=h1.form
  obtain ⟨_,_,e2⟩:=h2.form
  subst h;simp at hv;rcases hv with rfl|rfl
  ·rw [e1];rfl
  ·rw [e2];rfl
 step:=fun ⟨sv,mv,h,h1,h2⟩ c hL hM=>⟨sv,mv,h,h1.step c hL hM,h2.step c hL hM⟩
def aH9:R (List En) where
 k:=1
 pos:=by decide
 ag:=false
 rel:=fun M w cs x=>∃b mb,cs= [.pointer (some ⟨b,0,none⟩)]∧cH T.coins_Set w b mb x∧b∉M∧mb∉M
 len:=fun ⟨_,_,h,_⟩=>by rw [h];rfl
 one:=fun ⟨b,mb,h,_⟩ v hv=>by subst h;simp at hv;subst hv;rfl
 step:=fun ⟨b,mb,h,hS,h1,h2⟩ c hL hM=>⟨b,mb,h,hS.chg c (fun hm=>(hL b hm).elim h1 (fun q=>by have:=hS.lt.1;omega)) (fun hm=>(hL mb hm).elim h2 (fun q=>by have:=hS.lt.2;omega)),fun hm=>(hM b hm).elim h1 (fun q=>by have:=hS.lt.1;omega),fun hm=>(hM mb hm).elim h2 (fun q=>by have:=hS.lt.2;omega)⟩
def eZ (A:List (List En)):List (List En × List En):=(List.range (A.length - 1)).map fun k=>(bA (A.getD k []) (A.getD (k+1) []),bA (A.getD (k+1) []) (A.getD k []))
theorem aD1 (A:List (List En)):(eZ A).length=A.length - 1:=by simp [eZ]
theorem pI {α:Type} (l:List α) (x d:α) (k:Nat) (h:k<l.length):(l++ [x]).getD k d=l.getD k d:=by
 rw [List.getD_eq_getElem?_getD,List.getD_eq_getElem?_getD,List.getElem?_append_left h]
theorem tY {α:Type} (l:List α) (x d:α):(l++ [x]).getD l.length d=x:=by simp [List.getD_eq_getElem?_getD]
theorem aLy (H:List (List En)) (m n:List En):eZ ((H++ [m])++ [n])=eZ (H++ [m])++ [(bA m n,bA n m)]:=by
 unfold eZ
 have e1:((H++ [m])++ [n]).length - 1=(H++ [m]).length - 1+1:=by simp
 rw [e1,List.range_succ,List.map_append]
 congr 1
 ·refine List.map_congr_left fun k hk=>?_
  have hk:=List.mem_range.1 hk
  simp only [List.length_append,List.length_cons,List.length_nil] at hk
  rw [pI _ _ _ k (by simp;omega),pI _ _ _ (k+1) (by simp;omega)]
 ·have e2:(H++ [m]).length - 1=H.length:=by simp
  have e3:((H++ [m])++ [n]).getD (H.length+1) []=n:=by
   have:=tY (H++ [m]) n []
   rwa [show (H++ [m]).length=H.length+1 by simp] at this
  rw [e2,List.map_cons,List.map_nil,pI _ _ _ H.length (by simp),tY,e3]
theorem aRh (A:List (List En)) (k:Nat) (h:k<(eZ A).length):(eZ A)[k]=(bA (A.getD k []) (A.getD (k+1) []),bA (A.getD (k+1) []) (A.getD k [])):=by
 simp only [eZ,List.getElem_map,List.getElem_range]
end Go.K
namespace Go.Proofs.YtgloknkcfchnlaaGreatDoor
open Go Go.K
theorem aS0 (e:En):(Option.map (fun b=>Value.bool (if true then !b else b)) (bL [.s,.i,.i,.s,.i] (aU.f e) (aU.f e)))=some (.bool false):=by
 simp [bL,fL,aU,Pt.cs,Cn.cs]
attribute [local irreducible] aD aK aV KOp.wp K.Spec u32 leS vnS str aN aI aO aP bI idT aY EtR bA eZ jF
set_option maxHeartbeats 16000000 in
set_option maxRecDepth 4000 in
theorem aFz {v:Value} {ls:List (List BSm)} (w:World) (hg:EtR w) (hz:SlR (iO hG) [] w v ls):K.Spec Tryz.prog F.kedgelaw12_BlockBack [v] w fun r w'=>r=.bool true∧Ext w w':=by
 refine qS rfl ?_
 unfold iU
 refine oy ?_
 repeat (first|refine go1 ?_|refine zg λ_ _=>?_|refine zi λ_ _=>?_)
 refine zC (d:=some 17) rfl (lC _) ?_
 rintro _ w1 ⟨b,mb,rfl,S1,hb1,hb2,x1⟩
 repeat (first|refine zG (d:=some 20) (E:=iO hG) (M:= []) (l:=ls) rfl (SlR.ext hz (by exact fx)) ?_|refine tP (d:=some 22) (E:=iO hG) (n:=min ls.length 6) rfl rfl (by omega) hz (by omega) rfl (fun v' hv'=>?_)|refine zG (d:=some 23) (E:=iO hG) (M:= []) (l:=ls.take (min ls.length 6)) rfl (SlR.ext hv' (by exact fx)) ?_|refine go1 ?_|refine zg λ_ _=>?_|refine zi λ_ _=>?_)
 have hSl:(ls.take (min ls.length 6)).length≤6:=by rw [List.length_take];omega
 generalize ls.take (min ls.length 6)=S at*
 refine aM (fun (p:Nat × Value × List (List En) × List En × Value × Value) w'=>Ext w w'∧p.1≤S.length∧cH T.coins_Set w' b mb p.2.2.2.1∧SlR enR ([b,mb]++aH p.2.2.2.2.1++aH p.2.2.2.2.2) w' p.2.1 p.2.2.2.1∧CG p.2.2.2.1∧SC p.2.2.2.1∧p.2.2.2.1.length≤15*p.1∧bH yL T.block_Undo w.heap.size ([b,mb]++aH p.2.2.2.2.2) w' p.2.2.2.2.1 (eZ (p.2.2.1++ [p.2.2.2.1]))∧bH aH9 T.P_coins_Set w.heap.size ([b,mb]++aH p.2.2.2.2.1) w' p.2.2.2.2.2 p.2.2.1∧(∀y∈aH p.2.2.2.2.1,y∉aH p.2.2.2.2.2∧y∉ [b,mb])∧(∀y∈aH p.2.2.2.2.2,y∉ [b,mb])∧(p.2.2.1++ [p.2.2.2.1]).getD 0 []= []∧(∀x∈p.2.2.1,CG x∧x.length≤15*p.1)∧p.2.2.1.length≤p.1) (fun p=> [(3,.pointer (some ⟨b,0,none⟩)),(4,p.2.1),(5,p.2.2.2.2.1),(6,p.2.2.2.2.2),(22,v'),(23,.int .i64 (S.length:Nat)),(24,.int .i64 (p.1:Nat))]) (fun p=>S.length - p.1) (0,.slice none 0 0, [], [],.slice none 0 0,.slice none 0 0) ⟨rfl,rfl,rfl,rfl,rfl,rfl,rfl,trivial⟩ ⟨x1,by simp,S1,SlR.nil _ _,CG.nil,SC.nil,by simp,by unfold eZ;exact bH.nil _ _ _ _,bH.nil _ _ _ _,by simp [aH],by simp [aH],rfl,by simp,by simp⟩ ?_
 rintro ⟨i,lv,H,m,uv,cv⟩ ρ w4 ⟨x4,hi,S4,hm4,g4,sc4,hml,ou,oc,hduv,hdcv,hA0,hHg,hHl⟩
 simp only at hi S4 hm4 g4 sc4 hml ou oc hduv hdcv hA0 hHg hHl
 dsimp only
 have s4:=x4.size
 have hM4:∀y∈ [b,mb],y<w4.heap.size:=fun y hy=>by simp at hy;rcases hy with rfl|rfl;exact S4.lt.1;exact S4.lt.2
 have hMb:∀y∈ [b,mb],w.heap.size≤y:=fun y hy=>by simp at hy;rcases hy with rfl|rfl;exact hb1;exact hb2
 have oub:=ou.base
 have oul:=ou.lt
 have ocb:=oc.base
 have ocl:=oc.lt
 repeat (first|refine go1 ?_|refine zg λ_ _=>?_|refine zi λ_ _=>?_)
 refine zL (x:=.tmp 25) (p:=((i:Nat):Int)<((S.length:Nat):Int)) rfl (fun h5=>?_) (fun h5=>?_)
 ·have hil:i<S.length:=by omega
  have hUl:∀y∈([b,mb]++aH uv++aH cv),y<w4.heap.size:=fun y hy=>by
   simp only [List.mem_append] at hy
   rcases hy with (hy|hy)|hy
   ·exact hM4 y hy
   ·exact oul y hy
   ·exact ocl y hy
  have hUb:∀y∈([b,mb]++aH uv++aH cv),w.heap.size≤y:=fun y hy=>by
   simp only [List.mem_append] at hy
   rcases hy with (hy|hy)|hy
   ·exact hMb y hy
   ·exact oub y hy
   ·exact ocb y hy
  have hvM:SlR (iO hG) ([b,mb]++aH uv++aH cv) w4 v' S:=hv'.step x4 (by simp) (fun y hy=>.inr (hUb y hy))
  have ek:((i:Nat):Int)+1=((i+1:Nat):Int):=by omega
  repeat (first|(refine aR (d:=some 27) (E:=iO hG) (M:= [b,mb]++aH uv++aH cv) rfl rfl (n:=i) (l:=S) hvM rfl hil (fun ad cs r4 he=>?_);obtain ⟨tv,rfl,htv⟩:=id he)|refine go1 ?_|refine zg λ_ _=>?_|refine zi λ_ _=>?_)
  rw [ek]
  refine zC (d:=some 33) rfl (kV (M:= [b,mb]++aH uv++aH cv) (l:=m) (zs:=S[i]) ((i+1:Nat):Int) _ hm4.en g4 sc4 htv (by omega) (by omega) hUl) ?_
  rintro vtx w7 ⟨txs,oT,htl,hmk,x7⟩
  have hT:SlR txR ([b,mb]++aH uv++aH cv) w7 vtx txs:=oT.slB hUl
  have hsm:∀t∈txs,t.Sm:=fun t ht=>(hmk t ht).sm
  have hou:=uQ hmk htl
  have s7:=x7.size
  have hM7:∀y∈ [b,mb],y<w7.heap.size:=fun y hy=>nLt (hM4 y hy) x7.size
  repeat (first|refine go1 ?_|refine zg λ_ _=>?_|refine zi λ_ _=>?_)
  refine zC (d:=some 35) rfl (rF _ (S4.ext x7)) ?_
  rintro _ w7b ⟨b',mb',rfl,S',hb',hmb',x7b⟩
  have x47:Ext w4 w7b:=x7.trans x7b
  have s7b:=x7b.size
  have l':=S'.lt
  repeat (first|refine go1 ?_|refine zg λ_ _=>?_|refine zi λ_ _=>?_)
  rw [ek]
  refine zC (d:=some 41) rfl (eU (M:= [b,mb]++aH uv++aH cv) (txs:=txs) (l:=m) ((i+1:Nat):Int) _ (S4.ext x47) g4 sc4 (by simp) (by simp) (fun y hy=>nLt (hUl y hy) (nTr s7 s7b)) (hT.ext x7b) hsm (by omega) (by omega)) ?_
  rintro _ w8 ⟨sv,mv,e,rfl,E8,S8,hA,hB,c8⟩
  have hT8:SlR txR ([b,mb]++aH uv++aH cv) w8 vtx txs:=(hT.ext x7b).step c8 (fun y hy=>.inl (by simp at hy;rcases hy with rfl|rfl<;>simp)) (fun y hy=>.inl hy)
  have x08:Ext w w8:=(Ext.chg (x4.trans x47) c8).mono (fun y hy=>.inr (hMb y hy))
  have hm8:SlR enR ([b,mb]++aH uv++aH cv) w8 lv m:=(hm4.ext x47).step c8 (fun y hy=>.inl (by simp at hy;rcases hy with rfl|rfl<;>simp)) (fun y hy=>.inl hy)
  have ou8:bH yL T.block_Undo w.heap.size ([b,mb]++aH cv) w8 uv (eZ (H++ [m])):=(ou.ext x47).step c8 (fun y hy=>⟨fun h=>(hduv y h).2 hy,.inl (List.mem_append_left _ hy)⟩) (fun y hy=>.inl hy)
  have oc8:bH aH9 T.P_coins_Set w.heap.size ([b,mb]++aH uv) w8 cv H:=(oc.ext x47).step c8 (fun y hy=>⟨fun h=>hdcv y h hy,.inl (List.mem_append_left _ hy)⟩) (fun y hy=>.inl hy)
  have S'8:=S'.chg c8 (fun h=>by have:=hM7 _ h;omega) (fun h=>by have:=hM7 _ h;omega)
  have gn:=pZ g4 txs ((i+1:Nat):Int)
  have scn:=vA g4 sc4 txs ((i+1:Nat):Int)
  have nl:=jL g4 txs ((i+1:Nat):Int)
  have kb:=wA (l:=m) (txs:=txs) (b:=((i+1:Nat):Int))
  have s8:=c8.size
  have o12:sv.oneCell'=true∧mv.oneCell'=true:=by
   by_cases h0:(aP m txs ((i+1:Nat):Int)).2.1=0
   ·obtain ⟨h1,h2, -⟩:=hA h0
    obtain ⟨_,_,q⟩:=h1.form
    obtain ⟨_,_,q2⟩:=h2.form
    rw [q,q2];exact ⟨rfl,rfl⟩
   ·obtain ⟨rfl,rfl⟩:=hB h0;exact ⟨rfl,rfl⟩
  have ones2:([sv,mv]:List Value).all (fun v=>v.oneCell')=true:=by simp [o12.1,o12.2]
  repeat (first|refine zE (d':=11) (fun _=>rfl) rfl rfl ones2 (fun b11 w9 x9 a9 (r9:Row w9 ⟨b11,0,none⟩ [sv,mv]) hb11=>?_)|refine go1 ?_|refine zg λ_ _=>?_|refine zi λ_ _=>?_)
  have s9:=x9.size
  by_cases h0:(aP m txs ((i+1:Nat):Int)).2.1=0
  ·obtain rfl:=E8.nilD.1 h0
   obtain ⟨hsv,hmv,hsb⟩:=hA h0
   repeat (first|refine zI (d:=some 48) (cs:= [sv,mv]) rfl (fun b20 w20 x20 a20 hb20=>?_)|refine go1 ?_|refine zg λ_ _=>?_|refine zi λ_ _=>?_)
   have s20:=x20.size
   have x820:Ext w8 w20:=x9.trans x20
   have hrel:yL.rel (aH uv++([b,mb]++aH cv)) w20 [sv,mv] (bA m (aP m txs ((i+1:Nat):Int)).1,bA (aP m txs ((i+1:Nat):Int)).1 m):=by
    have hlt:∀y∈aH uv++([b,mb]++aH cv),y<w7b.heap.size:=fun y hy=>by
     simp only [List.mem_append] at hy
     rcases hy with hy|hy|hy
     ·have:=oul y hy;omega
     ·have:=hM7 y hy;omega
     ·have:=ocl y hy;omega
    exact ⟨sv,mv,rfl,(hsv.en fun y hy hm=>by have:=hsb y (.inl hy);have:=hlt y hm;omega).ext x820,(hmv.en fun y hy hm=>by have:=hsb y (.inr hy);have:=hlt y hm;omega).ext x820⟩
   have hll:=aD1 (H++ [m])
   refine fB (d:=some 49) (E:=yL) (M:= [b,mb]++aH cv) (v:=uv) (cs:= [sv,mv]) (a:=(bA m (aP m txs ((i+1:Nat):Int)).1,bA (aP m txs ((i+1:Nat):Int)).1 m)) rfl rfl (ou8.ext x820) (nTr x08.size x820.size) rfl rfl a20 hrel (by rw [hll];simp;omega) (fun uv' w21 o21 c21 hbu=>?_)
   rw [←aLy] at o21
   have s21:=c21.size
   have oc21:bH aH9 T.P_coins_Set w.heap.size ([b,mb]++aH uv') w21 cv H:=(oc8.ext x820).step c21 (fun y hy=>⟨(hduv y hy).1,.inl (List.mem_append_right _ hy)⟩) (fun y hy=>by
    rcases List.mem_append.1 hy with hy|hy
    ·exact .inl (List.mem_append_left _ hy)
    ·exact (hbu y hy).imp (List.mem_append_right _) id)
   have hm21:SlR enR ([b,mb]++aH uv'++aH cv) w21 lv m:=(hm8.ext x820).step c21 (fun y hy=>.inl (by simp [hy])) (fun y hy=>by
    simp only [List.mem_append] at hy ⊢
    rcases hy with (hy|hy)|hy
    ·exact .inl (.inl (.inl hy))
    ·exact (hbu y hy).imp (fun h=>.inl (.inr h)) id
    ·exact .inl (.inr hy))
   have hT21:SlR txR ([b,mb]++aH uv++aH cv) w21 vtx txs:=(hT8.ext x820).step c21 (fun y hy=>.inl (by simp [hy])) (fun y hy=>.inl hy)
   have hU20:∀y∈aH uv',y∈aH uv∨w20.heap.size≤y:=hbu
   have S8':=S'8.ext x820
   have l8':=S8'.lt
   have S21':=S8'.chg c21 (fun h=>by have:=oul _ h;omega) (fun h=>by have:=oul _ h;omega)
   have S21:=(S8.ext x820).chg c21 (fun h=>(hduv _ h).2 (by simp)) (fun h=>(hduv _ h).2 (by simp))
   repeat (first|refine zI (d:=some 52) (cs:= [.pointer (some ⟨b',0,none⟩)]) rfl (fun b22 w22 x22 a22 hb22=>?_)|refine go1 ?_|refine zg λ_ _=>?_|refine zi λ_ _=>?_)
   have s22:=x22.size
   have hbn:∀y,w7.heap.size≤y→y<w8.heap.size→y∉aH cv++([b,mb]++aH uv'):=fun y h1 h2 hm=>by
    simp only [List.mem_append] at hm
    rcases hm with hm|hm|hm
    ·have:=ocl y hm;omega
    ·have:=hM7 y hm;omega
    ·rcases hbu y hm with h|h
     ·have:=oul y h;omega
     ·omega
   have hrelc:aH9.rel (aH cv++([b,mb]++aH uv')) w22 [.pointer (some ⟨b',0,none⟩)] m:=⟨b',mb',rfl,S21'.ext x22,hbn b' hb' (by omega),hbn mb' hmb' (by omega)⟩
   have x021:Ext w w21:=(Ext.chg (x08.trans x820) c21).mono (fun y hy=>.inr (oub y hy))
   refine fB (d:=some 53) (E:=aH9) (M:= [b,mb]++aH uv') (v:=cv) (cs:= [.pointer (some ⟨b',0,none⟩)]) (a:=m) rfl rfl (oc21.ext x22) (nTr x021.size x22.size) rfl rfl a22 hrelc (by omega) (fun cv' w23 o23 c23 hbc=>?_)
   have s23:=c23.size
   have hduv':∀y∈aH uv',y∉aH cv∧y∉ [b,mb]:=fun y hy=>by
    rcases hbu y hy with h|h
    ·exact hduv y h
    ·exact ⟨fun hm=>by have:=ocl y hm;omega,fun hm=>by have:=hM7 y hm;omega⟩
   have hlu:=o21.lt
   have o23u:bH yL T.block_Undo w.heap.size ([b,mb]++aH cv') w23 uv' (eZ ((H++ [m])++ [(aP m txs ((i+1:Nat):Int)).1])):=(o21.ext x22).step c23 (fun y hy=>⟨fun h=>(hduv' y h).1 hy,.inl (List.mem_append_right _ hy)⟩) (fun y hy=>by
    rcases List.mem_append.1 hy with hy|hy
    ·exact .inl (List.mem_append_left _ hy)
    ·exact (hbc y hy).imp (List.mem_append_right _) id)
   have hm23:SlR enR ([b,mb]++aH uv'++aH cv') w23 lv m:=(hm21.ext x22).step c23 (fun y hy=>.inl (by simp [hy])) (fun y hy=>by
    simp only [List.mem_append] at hy ⊢
    rcases hy with hy|hy
    ·exact .inl (.inl hy)
    ·exact (hbc y hy).imp (fun h=>.inr h) id)
   have hT23:SlR txR ([b,mb]++aH uv++aH cv) w23 vtx txs:=(hT21.ext x22).step c23 (fun y hy=>.inl (by simp [hy])) (fun y hy=>.inl hy)
   have S23:=(S21.ext x22).chg c23 (fun h=>hdcv _ h (by simp)) (fun h=>hdcv _ h (by simp))
   have x023:Ext w w23:=(Ext.chg (x021.trans x22) c23).mono (fun y hy=>.inr (ocb y hy))
   have hlc:=o23.lt
   repeat (first|refine go1 ?_|refine zg λ_ _=>?_|refine zi λ_ _=>?_)
   rw [ek]
   refine zC (d:=some 59) rfl (vK (M:= [b,mb]++aH uv++aH cv) (l:=m) (txs:=txs) ((i+1:Nat):Int) _ hm23.en g4 sc4 hT23 hsm (by omega) (by omega)) ?_
   rintro _ w24 ⟨vl,rfl,hvl,hnew,x24⟩
   have hvl':SlR enR ([b,mb]++aH uv'++aH cv') w24 vl (aP m txs ((i+1:Nat):Int)).1:=by
    rcases hnew with ⟨rfl,e⟩|hf
    ·rw [e];exact hm23.ext x24
    ·refine hvl.en fun y hy hm=>?_
     have:=hf y hy
     simp only [List.mem_append] at hm
     rcases hm with (hm|hm)|hm
     ·have:=hM7 y hm;omega
     ·have:=hlu y hm;omega
     ·have:=hlc y hm;omega
   repeat (first|refine go1 ?_|refine zg λ_ _=>?_|refine zi λ_ _=>?_)
   refine ⟨(i+1,vl,H++ [m],(aP m txs ((i+1:Nat):Int)).1,uv',cv'),⟨rfl,rfl,rfl,rfl,rfl,rfl,rfl,trivial⟩,⟨x023.trans x24,by simp only;omega,S23.ext x24,hvl',gn,scn,by simp only;omega,o23u.ext x24,o23.ext x24,fun y hy=>⟨fun hm=>?_,(hduv' y hy).2⟩,fun y hy hm=>?_,?_,fun x hx=>?_,by simp;omega⟩,by simp only;omega⟩
   ·rcases hbc y hm with h|h
    ·exact (hduv' y hy).1 h
    ·have:=hlu y hy;omega
   ·rcases hbc y hy with h|h
    ·exact hdcv y h hm
    ·have:=hM7 y hm;omega
   ·simp only
    rw [pI _ _ _ 0 (by simp)];exact hA0
   ·simp only [List.mem_append,List.mem_singleton] at hx
    rcases hx with hx|rfl
    ·exact ⟨(hHg x hx).1,by have:=(hHg x hx).2;simp only;omega⟩
    ·exact ⟨g4,by simp only;omega⟩
  ·obtain ⟨et,eu,rfl⟩:=E8.nilD.2 h0
   rw [kb h0] at S8
   repeat (first|refine go1 ?_|refine zg λ_ _=>?_|refine zi λ_ _=>?_)
   exact ⟨(i+1,lv,H,m,uv,cv),⟨rfl,rfl,rfl,rfl,rfl,rfl,rfl,trivial⟩,⟨x08.trans x9,by simp only;omega,S8.ext x9,hm8.ext x9,g4,sc4,by simp only;omega,ou8.ext x9,oc8.ext x9,hduv,hdcv,hA0,fun x hx=>⟨(hHg x hx).1,by have:=(hHg x hx).2;simp only;omega⟩,by simp only;omega⟩,by simp only;omega⟩
 ·have hll:=aD1 (H++ [m])
  have hlA:(H++ [m]).length - 1=H.length:=by simp
  rw [hlA] at hll
  have hAg:∀k,k≤H.length→CG ((H++ [m]).getD k [])∧((H++ [m]).getD k []).length≤90:=fun k hk=>by
   by_cases hk2:k<H.length
   ·rw [pI _ _ _ k hk2,List.getD_eq_getElem?_getD,List.getElem?_eq_getElem hk2]
    obtain ⟨h1,h2⟩:=hHg _ (gMe hk2)
    exact ⟨h1,by simp only [Option.getD_some];omega⟩
   ·have:k=H.length:=by omega
    subst this
    rw [tY]
    exact ⟨g4,by omega⟩
  have hcur:(H++ [m]).getD H.length []=m:=tY _ _ _
  have su:SlR yL ([b,mb]++aH cv) w4 uv (eZ (H++ [m])):=ou.sl (fun y hy hv=>by
   rcases List.mem_append.1 hy with hy|hy
   ·exact (hduv y hv).2 hy
   ·exact (hduv y hv).1 hy)
  repeat (first|(refine zG (d:=some 66) (E:=yL) (M:= [b,mb]++aH cv) (l:=eZ (H++ [m])) rfl su ?_;rw [hll])|refine go1 ?_|refine zg λ_ _=>?_|refine zi λ_ _=>?_)
  refine aM (fun (k:Nat) w'=>Chg [b,mb] w4 w'∧Ext w w'∧k≤H.length∧cH T.coins_Set w' b mb ((H++ [m]).getD k [])) (fun k=> [(3,.pointer (some ⟨b,0,none⟩)),(5,uv),(6,cv),(13,.int .i64 (((k:Nat):Int) - 1))]) (fun k=>k) H.length ⟨rfl,rfl,rfl,rfl,trivial⟩ ⟨Chg.refl _ _,x4,Nat.le_refl _,by rw [hcur];exact S4⟩ ?_
  rintro k ρ w5 ⟨c5,x5,hk,S5⟩
  have ou5:bH yL T.block_Undo w.heap.size ([b,mb]++aH cv) w5 uv (eZ (H++ [m])):=ou.step c5 (fun y hy=>⟨fun h=>(hduv y h).2 hy,.inl (List.mem_append_left _ hy)⟩) (fun y hy=>.inl hy)
  have oc5:bH aH9 T.P_coins_Set w.heap.size ([b,mb]++aH uv) w5 cv H:=oc.step c5 (fun y hy=>⟨fun h=>hdcv y h hy,.inl (List.mem_append_left _ hy)⟩) (fun y hy=>.inl hy)
  repeat (first|refine go1 ?_|refine zg λ_ _=>?_|refine zi λ_ _=>?_)
  refine zL (x:=.tmp 69) (p:=((k:Nat):Int) - 1≥0) rfl (fun h7=>?_) (fun h7=>?_)
  ·obtain ⟨j,rfl⟩:∃j,k=j+1:=⟨k - 1,by omega⟩
   rw [show ((j+1:Nat):Int) - 1=(j:Nat) by omega]
   have hjl:j<(eZ (H++ [m])).length:=by rw [hll];omega
   have hjH:j<H.length:=by omega
   have eu:=aRh (H++ [m]) j hjl
   obtain ⟨g1,n1⟩:=hAg j (by omega)
   obtain ⟨g2,n2⟩:=hAg (j+1) hk
   have eH:H[j]=(H++ [m]).getD j []:=by rw [pI _ _ _ j hjH,List.getD_eq_getElem?_getD,List.getElem?_eq_getElem hjH];rfl
   generalize hA1:(H++ [m]).getD j []=A1 at*
   generalize (H++ [m]).getD (j+1) []=A2 at*
   have ll1:=jN A1 A2
   have ll2:=jN A2 A1
   have hsw:=uG g2 g1
   repeat (first|(refine aDh (d:=some 75) (v:=uv) (E:=yL) (M:= [b,mb]++aH cv) (B:=w.heap.size) (t:=T.block_Undo) rfl rfl (n:=j) (l:=eZ (H++ [m])) ou5 rfl hjl (fun ad cs r4 he=>?_);rw [eu] at he;obtain ⟨sv,mv,rfl,hsv,hmv⟩:=he)|refine go1 ?_|refine zg λ_ _=>?_|refine zi λ_ _=>?_)
   refine zC (d:=some 77) rfl (qM (l:=A2) (spent:=bA A1 A2) (made:=bA A2 A1) _ S5 (hsv.sub (fun y hy=>.inl (by simp at hy;rcases hy with rfl|rfl<;>simp))) (hmv.sub (fun y hy=>.inl (by simp at hy;rcases hy with rfl|rfl<;>simp))) (by omega) (by omega) (by rw [hsw])) ?_
   rw [hsw]
   rintro _ w6 ⟨rfl,S6,c6⟩
   have S6:cH T.coins_Set w6 b mb A1:=S6
   have c46:Chg [b,mb] w4 w6:=(c5.trans c6).mono (fun y hy=>.inl (by simp at hy ⊢;omega))
   have x06:Ext w w6:=(Ext.chg x5 c6).mono (fun y hy=>.inr (hMb y hy))
   have oc6:bH aH9 T.P_coins_Set w.heap.size ([b,mb]++aH uv) w6 cv H:=oc5.step c6 (fun y hy=>⟨fun h=>hdcv y h hy,.inl (List.mem_append_left _ hy)⟩) (fun y hy=>.inl hy)
   clear ou5 oc5 hsv hmv r4 c5 S5 c6 x5 x4 x1
   repeat (first|refine zg (fun w7 x7=>?_)|refine sW (b:=.cons ⟨some 85,_,_⟩ _) (fun (p:Value × Nat × Nat) w'=>Ext w6 w'∧SlE aU w' p.1 A1∧cH T.coins_Set w' p.2.1 p.2.2 A1) (fun p=> [(3,.pointer (some ⟨b,0,none⟩)),(5,uv),(6,cv),(13,.int .i64 (j:Nat)),(80,p.1),(84,.pointer (some ⟨p.2.1,0,none⟩))]) ?_ ?_|refine go1 ?_|refine zg λ_ _=>?_|refine zi λ_ _=>?_)
   ·repeat' (first|refine zB ?_ ?_|(refine aDh (d:=some 83) (v:=cv) (E:=aH9) (M:= [b,mb]++aH uv) (B:=w.heap.size) (t:=T.P_coins_Set) rfl rfl (n:=j) (l:=H) (bH.ext (w:=w6) oc6 (by exact fx)) rfl hjH (fun ad cs r8 he=>?_);rw [eH] at he;obtain ⟨bj,mbj,rfl,hSj, -⟩:=he)|(refine zC (d:=some 80) rfl (lE _ (cH.ext (w:=w6) (by exact fx) S6) (by omega)) ?_;rintro av w8 ⟨hav, -,x8⟩)|refine go1 ?_|refine zg λ_ _=>?_|refine zi λ_ _=>?_)
    all_goals exact ⟨(av,bj,mbj),⟨rfl,rfl,rfl,rfl,rfl,rfl,trivial⟩,by exact fx,hav.ext (by exact fx),hSj.ext (by exact fx)⟩
   rintro ⟨av,bj,mbj⟩ ρ w9 ⟨x9,hav,hSj⟩
   simp only at hav hSj
   refine zC (d:=some 85) rfl (lE _ hSj (by omega)) ?_
   rintro bv w10 ⟨hbv, -,x10⟩
   have S10:=(S6.ext x9).ext x10
   have hSj10:=hSj.ext x10
   have oc10:=(oc6.ext x9).ext x10
   have hav10:=hav.ext x10
   have x610:Ext w6 w10:=x9.trans x10
   clear x7 x9 x10 hav hSj
   repeat (first|refine zg (fun w11 x11=>?_)|refine sW (b:=.cons ⟨some 98,_,_⟩ _) (fun (p:Nat × Nat) w'=>Ext w10 w'∧cH T.coins_Set w' p.1 p.2 A1) (fun p=> [(3,.pointer (some ⟨b,0,none⟩)),(5,uv),(6,cv),(13,.int .i64 (j:Nat)),(14,av),(15,bv),(91,.bool false),(93,.int .i64 (tot A1)),(97,.pointer (some ⟨p.1,0,none⟩))]) ?_ ?_|refine go1 ?_|refine zg λ_ _=>?_|refine zi λ_ _=>?_)
   ·repeat' (first|refine bN (d:=some 87) rfl (SlE.ext (w:=w10) (by exact fx) hav10) ?_|refine bN (d:=some 89) rfl (SlE.ext (w:=w10) (by exact fx) hbv) ?_|refine aG (d:=some 90) (.bool false) rfl (congrArg (fun b=>some (Value.bool (!b))) (dTr rfl)) ?_|refine zB ?_ ?_|(refine aDh (d:=some 96) (v:=cv) (E:=aH9) (M:= [b,mb]++aH uv) (B:=w.heap.size) (t:=T.P_coins_Set) rfl rfl (n:=j) (l:=H) (bH.ext (w:=w10) oc10 (by exact fx)) rfl hjH (fun ad cs r8 he=>?_);rw [eH] at he;obtain ⟨bj,mbj,rfl,hSj, -⟩:=he)|(refine zC (d:=some 93) rfl (gA _ (cH.ext (w:=w10) (by exact fx) S10)) ?_;rintro _ w12 ⟨rfl,x12⟩)|refine go1 ?_|refine zg λ_ _=>?_|refine zi λ_ _=>?_)
    all_goals exact ⟨(bj,mbj),⟨rfl,rfl,rfl,rfl,rfl,rfl,rfl,rfl,rfl,trivial⟩,by exact fx,hSj.ext (by exact fx)⟩
   rintro ⟨bj,mbj⟩ ρ w13 ⟨x13,hSj⟩
   simp only at hSj
   repeat (first|refine go1 ?_|refine zg λ_ _=>?_|refine zi λ_ _=>?_)
   refine zC (d:=some 98) rfl (gA _ hSj) ?_
   rintro _ w14 ⟨rfl,x14⟩
   have x1014:Ext w10 w14:=x13.trans x14
   have hav14:=hav10.ext x1014
   have hbv14:=hbv.ext x1014
   clear x11 x13 x14
   repeat (first|refine aG (d:=some 99) (.bool false) rfl (congrArg (fun b=>some (Value.bool (!b))) (dTr rfl)) ?_|refine bN (d:=some 102) rfl hav14 ?_|refine go1 ?_|refine zg λ_ _=>?_|refine zi λ_ _=>?_)
   refine aM (fun (q:Nat) w'=>Ext w14 w'∧q≤A1.length) (fun q=> [(3,.pointer (some ⟨b,0,none⟩)),(5,uv),(6,cv),(13,.int .i64 (j:Nat)),(14,av),(15,bv),(101,av),(102,.int .i64 (A1.length:Nat)),(103,.int .i64 (q:Nat))]) (fun q=>A1.length - q) 0 ⟨rfl,rfl,rfl,rfl,rfl,rfl,rfl,rfl,rfl,trivial⟩ ⟨Ext.refl _,by simp⟩ ?_
   rintro q ρ w15 ⟨x15,hq⟩
   repeat (first|refine go1 ?_|refine zg λ_ _=>?_|refine zi λ_ _=>?_)
   refine zL (x:=.tmp 104) (p:=((q:Nat):Int)<((A1.length:Nat):Int)) rfl (fun h8=>?_) (fun h8=>?_)
   ·have hql:q<A1.length:=by omega
    repeat (first|refine aL (d:=some 108) (E:=aU) rfl rfl (n:=q) (l:=A1) (SlE.ext (w:=w14) (by exact fx) hav14) rfl hql (fun ad1 ra=>?_)|refine aL (d:=some 112) (E:=aU) rfl rfl (n:=q) (l:=A1) (SlE.ext (w:=w14) (by exact fx) hbv14) rfl hql (fun ad2 rb=>?_)|refine aG (d:=some 114) (.bool false) rfl (aS0 A1[q]) ?_|refine go1 ?_|refine zg λ_ _=>?_|refine zi λ_ _=>?_)
    exact ⟨q+1,⟨rfl,rfl,rfl,rfl,rfl,rfl,rfl,rfl,rfl,trivial⟩,⟨by exact fx,by omega⟩,by omega⟩
   ·repeat (first|refine go1 ?_|refine zg λ_ _=>?_|refine zi λ_ _=>?_)
    have x615:Ext w6 w15:=(x610.trans x1014).trans x15
    exact ⟨j,⟨rfl,rfl,rfl,rfl,trivial⟩,⟨c46.ext x615,x06.trans x615,by omega,by rw [hA1];exact S6.ext x615⟩,by omega⟩
  ·have ek:k=0:=by omega
   subst ek
   rw [hA0] at S5
   repeat (first|refine go1 ?_|refine zg λ_ _=>?_|refine zi λ_ _=>?_)
   refine zC (d:=some 116) rfl (fF _ (hg.ext x5)) ?_
   rintro _ w6 ⟨rfl,x6⟩
   repeat (first|refine go1 ?_|refine zg λ_ _=>?_|refine zi λ_ _=>?_)
   refine zC (d:=some 119) rfl (aHo _ (S5.ext x6)) ?_
   rintro _ w7 ⟨rfl,x7⟩
   repeat (first|refine go1 ?_|refine zg λ_ _=>?_|refine zi λ_ _=>?_)
   exact aB rfl ⟨rfl,(x5.trans x6).trans x7⟩
end Go.Proofs.YtgloknkcfchnlaaGreatDoor
end
