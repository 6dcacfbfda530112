/- The walk of BlockBack. Plain: a coin that was changed, and changed back. The walk of BlockState. Transactions that come in, for laws of blocks. The walk of BlockRaw. -/
import Derived.Test.YtbidkcjendncaaaGreatDoorDa29
set_option linter.unusedVariables false
set_option linter.unusedSimpArgs false
section
namespace Go.K
open Go Go.Proofs.YtbidkcjendncaaaGreatDoor
def undoR:R (List En × List En) where
 k:=2
 pos:=by decide
 ag:=true
 rel:=fun M w cs x=>∃sv mv,cs= [sv,mv]∧SlR enR M w sv x.1∧SlR enR M w mv x.2
 len:=fun ⟨_,_,h,_⟩=>by rw [h];rfl
 one:=fun ⟨sv,mv,h,h1,h2⟩ v hv=>by
  obtain ⟨_,_,e1⟩:=h1.form
  obtain ⟨_,_,e2⟩:=h2.form
  subst h;simp at hv;rcases hv with rfl|rfl
  ·rw [e1];rfl
  ·rw [e2];rfl
 step:=fun ⟨sv,mv,h,h1,h2⟩ c hL hM=>⟨sv,mv,h,h1.step c hL hM,h2.step c hL hM⟩
def setR:R (List En) where
 k:=1
 pos:=by decide
 ag:=false
 rel:=fun M w cs x=>∃b mb,cs= [.pointer (some ⟨b,0,none⟩)]∧SetP T.coins_Set w b mb x∧b∉M∧mb∉M
 len:=fun ⟨_,_,h,_⟩=>by rw [h];rfl
 one:=fun ⟨b,mb,h,_⟩ v hv=>by subst h;simp at hv;subst hv;rfl
 step:=fun ⟨b,mb,h,hS,h1,h2⟩ c hL hM=>⟨b,mb,h,hS.chg c (fun hm=>(hL b hm).elim h1 (fun q=>by have:=hS.lt.1;omega)) (fun hm=>(hL mb hm).elim h2 (fun q=>by have:=hS.lt.2;omega)),fun hm=>(hM b hm).elim h1 (fun q=>by have:=hS.lt.1;omega),fun hm=>(hM mb hm).elim h2 (fun q=>by have:=hS.lt.2;omega)⟩
def undosL (A:List (List En)):List (List En × List En):=(List.range (A.length - 1)).map fun k=>(lessL (A.getD k []) (A.getD (k+1) []),lessL (A.getD (k+1) []) (A.getD k []))
theorem undosL_len (A:List (List En)):(undosL A).length=A.length - 1:=by simp [undosL]
theorem getD_app {α:Type} (l:List α) (x d:α) (k:Nat) (h:k<l.length):(l++ [x]).getD k d=l.getD k d:=by
 rw [List.getD_eq_getElem?_getD,List.getD_eq_getElem?_getD,List.getElem?_append_left h]
theorem getD_last {α:Type} (l:List α) (x d:α):(l++ [x]).getD l.length d=x:=by simp [List.getD_eq_getElem?_getD]
theorem undosL_snoc (H:List (List En)) (m n:List En):undosL ((H++ [m])++ [n])=undosL (H++ [m])++ [(lessL m n,lessL n m)]:=by
 unfold undosL
 have e1:((H++ [m])++ [n]).length - 1=(H++ [m]).length - 1+1:=by simp
 rw [e1,List.range_succ,List.map_append]
 congr 1
 ·refine List.map_congr_left fun k hk=>?_
  have hk:=List.mem_range.1 hk
  simp only [List.length_append,List.length_cons,List.length_nil] at hk
  rw [getD_app _ _ _ k (by simp;omega),getD_app _ _ _ (k+1) (by simp;omega)]
 ·have e2:(H++ [m]).length - 1=H.length:=by simp
  have e3:((H++ [m])++ [n]).getD (H.length+1) []=n:=by
   have:=getD_last (H++ [m]) n []
   rwa [show (H++ [m]).length=H.length+1 by simp] at this
  rw [e2,List.map_cons,List.map_nil,getD_app _ _ _ H.length (by simp),getD_last,e3]
theorem undosL_at (A:List (List En)) (k:Nat) (h:k<(undosL A).length):(undosL A)[k]=(lessL (A.getD k []) (A.getD (k+1) []),lessL (A.getD (k+1) []) (A.getD k [])):=by
 simp only [undosL,List.getElem_map,List.getElem_range]
end Go.K
namespace Go.Proofs.YtbidkcjendncaaaGreatDoor
open Go Go.K
theorem en_ne2 (e:En):(Option.map (fun b=>Value.bool (if true then !b else b)) (cellsEq [.s,.i,.i,.s,.i] (entE.f e) (entE.f e)))=some (.bool false):=by
 simp [cellsEq,cellEq,entE,Pt.cs,Cn.cs]
attribute [local irreducible] regK codeK retK KOp.wp K.Spec u32 leS vnS str zero32 checkT grantB applyL encT idT sizeT EtR lessL undosL swapL
set_option maxHeartbeats 16000000 in
set_option maxRecDepth 4000 in
theorem blockBack_law {v:Value} {ls:List (List BSm)} (w:World) (hg:EtR w) (hz:SlR (listR bsmR) [] w v ls):K.Spec Tryz.prog F.kedgelaw12_BlockBack [v] w fun r w'=>r=.bool true∧Ext w w':=by
 refine s_kedgelaw12_BlockBack rfl ?_
 unfold k_kedgelaw12_BlockBack
 refine oy ?_
 repeat (first|refine go1 ?_|refine zg (fun _ _=>?_)|refine zi (fun _ _=>?_))
 refine zC (d:=some 17) rfl (pnew_spec _) ?_
 rintro _ w1 ⟨b,mb,rfl,S1,hb1,hb2,x1⟩
 repeat (first|(refine zG (d:=some 20) (E:=listR bsmR) (M:= []) (l:=ls) rfl (SlR.ext hz (by exact fx)) ?_)|(refine st_takeR (d:=some 22) (E:=listR bsmR) (n:=min ls.length 6) rfl rfl (by omega) hz (by omega) rfl (fun v' hv'=>?_))|(refine zG (d:=some 23) (E:=listR bsmR) (M:= []) (l:=ls.take (min ls.length 6)) rfl (SlR.ext hv' (by exact fx)) ?_)|(first|refine go1 ?_|refine zg (fun _ _=>?_)|refine zi (fun _ _=>?_)))
 have hSl:(ls.take (min ls.length 6)).length≤6:=by rw [List.length_take];omega
 generalize ls.take (min ls.length 6)=S at*
 refine c_loopV (fun (p:Nat × Value × List (List En) × List En × Value × Value) w'=>Ext w w'∧p.1≤S.length∧SetP T.coins_Set w' b mb p.2.2.2.1∧SlR enR ([b,mb]++blkOf p.2.2.2.2.1++blkOf p.2.2.2.2.2) w' p.2.1 p.2.2.2.1∧CG p.2.2.2.1∧SC p.2.2.2.1∧p.2.2.2.1.length≤15*p.1∧OwnR undoR T.block_Undo w.heap.size ([b,mb]++blkOf p.2.2.2.2.2) w' p.2.2.2.2.1 (undosL (p.2.2.1++ [p.2.2.2.1]))∧OwnR setR T.P_coins_Set w.heap.size ([b,mb]++blkOf p.2.2.2.2.1) w' p.2.2.2.2.2 p.2.2.1∧(∀y∈blkOf p.2.2.2.2.1,y∉blkOf p.2.2.2.2.2∧y∉ [b,mb])∧(∀y∈blkOf p.2.2.2.2.2,y∉ [b,mb])∧(p.2.2.1++ [p.2.2.2.1]).getD 0 []= []∧(∀x∈p.2.2.1,CG x∧x.length≤15*p.1)∧p.2.2.1.length≤p.1) (fun p=> [(3,.pointer (some ⟨b,0,none⟩)),(4,p.2.1),(5,p.2.2.2.2.1),(6,p.2.2.2.2.2),(22,v'),(23,.int .i64 (S.length:Nat)),(24,.int .i64 (p.1:Nat))]) (fun p=>S.length - p.1) (0,.slice none 0 0, [], [],.slice none 0 0,.slice none 0 0) ⟨rfl,rfl,rfl,rfl,rfl,rfl,rfl,trivial⟩ ⟨x1,by simp,S1,SlR.nil _ _,CG.nil,SC.nil,by simp,by unfold undosL;exact OwnR.nil _ _ _ _,OwnR.nil _ _ _ _,by simp [blkOf],by simp [blkOf],rfl,by simp,by simp⟩ ?_
 rintro ⟨i,lv,H,m,uv,cv⟩ ρ w4 ⟨x4,hi,S4,hm4,g4,sc4,hml,ou,oc,hduv,hdcv,hA0,hHg,hHl⟩
 simp only at hi S4 hm4 g4 sc4 hml ou oc hduv hdcv hA0 hHg hHl
 dsimp only
 have s4:=x4.size
 have hM4:∀y∈ [b,mb],y<w4.heap.size:=fun y hy=>by simp at hy;rcases hy with rfl|rfl;exact S4.lt.1;exact S4.lt.2
 have hMb:∀y∈ [b,mb],w.heap.size≤y:=fun y hy=>by simp at hy;rcases hy with rfl|rfl;exact hb1;exact hb2
 have oub:=ou.base
 have oul:=ou.lt
 have ocb:=oc.base
 have ocl:=oc.lt
 repeat (first|refine go1 ?_|refine zg (fun _ _=>?_)|refine zi (fun _ _=>?_))
 refine zL (x:=.tmp 25) (p:=((i:Nat):Int)<((S.length:Nat):Int)) rfl (fun h5=>?_) (fun h5=>?_)
 ·have hil:i<S.length:=by omega
  have hUl:∀y∈([b,mb]++blkOf uv++blkOf cv),y<w4.heap.size:=fun y hy=>by
   simp only [List.mem_append] at hy
   rcases hy with (hy|hy)|hy
   ·exact hM4 y hy
   ·exact oul y hy
   ·exact ocl y hy
  have hUb:∀y∈([b,mb]++blkOf uv++blkOf cv),w.heap.size≤y:=fun y hy=>by
   simp only [List.mem_append] at hy
   rcases hy with (hy|hy)|hy
   ·exact hMb y hy
   ·exact oub y hy
   ·exact ocb y hy
  have hvM:SlR (listR bsmR) ([b,mb]++blkOf uv++blkOf cv) w4 v' S:=hv'.step x4 (by simp) (fun y hy=>.inr (hUb y hy))
  have ek:((i:Nat):Int)+1=((i+1:Nat):Int):=by omega
  repeat (first|(refine st_elemR (d:=some 27) (E:=listR bsmR) (M:= [b,mb]++blkOf uv++blkOf cv) rfl rfl (n:=i) (l:=S) hvM rfl hil (fun ad cs r4 he=>?_);obtain ⟨tv,rfl,htv⟩:=id he)|(first|refine go1 ?_|refine zg (fun _ _=>?_)|refine zi (fun _ _=>?_)))
  rw [ek]
  refine zC (d:=some 33) rfl (made12b_spec (M:= [b,mb]++blkOf uv++blkOf cv) (l:=m) (zs:=S[i]) ((i+1:Nat):Int) _ hm4.en g4 sc4 htv (by omega) (by omega) hUl) ?_
  rintro vtx w7 ⟨txs,oT,htl,hmk,x7⟩
  have hT:SlR txR ([b,mb]++blkOf uv++blkOf cv) w7 vtx txs:=oT.slB hUl
  have hsm:∀t∈txs,t.Sm:=fun t ht=>(hmk t ht).sm
  have hou:=outsB_mk5 hmk htl
  have s7:=x7.size
  have hM7:∀y∈ [b,mb],y<w7.heap.size:=fun y hy=>Nat.lt_of_lt_of_le (hM4 y hy) x7.size
  repeat (first|refine go1 ?_|refine zg (fun _ _=>?_)|refine zi (fun _ _=>?_))
  refine zC (d:=some 35) rfl (pcopy_spec _ (S4.ext x7)) ?_
  rintro _ w7b ⟨b',mb',rfl,S',hb',hmb',x7b⟩
  have x47:Ext w4 w7b:=x7.trans x7b
  have s7b:=x7b.size
  have l':=S'.lt
  repeat (first|refine go1 ?_|refine zg (fun _ _=>?_)|refine zi (fun _ _=>?_))
  rw [ek]
  refine zC (d:=some 41) rfl (bapply_spec (M:= [b,mb]++blkOf uv++blkOf cv) (txs:=txs) (l:=m) ((i+1:Nat):Int) _ (S4.ext x47) g4 sc4 (by simp) (by simp) (fun y hy=>Nat.lt_of_lt_of_le (hUl y hy) (Nat.le_trans s7 s7b)) (hT.ext x7b) hsm (by omega) (by omega)) ?_
  rintro _ w8 ⟨sv,mv,e,rfl,E8,S8,hA,hB,c8⟩
  have hT8:SlR txR ([b,mb]++blkOf uv++blkOf cv) w8 vtx txs:=(hT.ext x7b).step c8 (fun y hy=>.inl (by simp at hy;rcases hy with rfl|rfl<;>simp)) (fun y hy=>.inl hy)
  have x08:Ext w w8:=(Ext.chg (x4.trans x47) c8).mono (fun y hy=>.inr (hMb y hy))
  have hm8:SlR enR ([b,mb]++blkOf uv++blkOf cv) w8 lv m:=(hm4.ext x47).step c8 (fun y hy=>.inl (by simp at hy;rcases hy with rfl|rfl<;>simp)) (fun y hy=>.inl hy)
  have ou8:OwnR undoR T.block_Undo w.heap.size ([b,mb]++blkOf cv) w8 uv (undosL (H++ [m])):=(ou.ext x47).step c8 (fun y hy=>⟨fun h=>(hduv y h).2 hy,.inl (List.mem_append_left _ hy)⟩) (fun y hy=>.inl hy)
  have oc8:OwnR setR T.P_coins_Set w.heap.size ([b,mb]++blkOf uv) w8 cv H:=(oc.ext x47).step c8 (fun y hy=>⟨fun h=>hdcv y h hy,.inl (List.mem_append_left _ hy)⟩) (fun y hy=>.inl hy)
  have S'8:=S'.chg c8 (fun h=>by have:=hM7 _ h;omega) (fun h=>by have:=hM7 _ h;omega)
  have gn:=applyL_cg g4 txs ((i+1:Nat):Int)
  have scn:=applyL_sc g4 sc4 txs ((i+1:Nat):Int)
  have nl:=applyL_len g4 txs ((i+1:Nat):Int)
  have kb:=applyL_bad (l:=m) (txs:=txs) (b:=((i+1:Nat):Int))
  have s8:=c8.size
  have o12:sv.oneCell'=true∧mv.oneCell'=true:=by
   by_cases h0:(applyL m txs ((i+1:Nat):Int)).2.1=0
   ·obtain ⟨h1,h2, -⟩:=hA h0
    obtain ⟨_,_,q⟩:=h1.form
    obtain ⟨_,_,q2⟩:=h2.form
    rw [q,q2];exact ⟨rfl,rfl⟩
   ·obtain ⟨rfl,rfl⟩:=hB h0;exact ⟨rfl,rfl⟩
  have ones2:([sv,mv]:List Value).all (fun v=>v.oneCell')=true:=by simp [o12.1,o12.2]
  repeat (first|(refine zE (d':=11) (fun _=>rfl) rfl rfl ones2 (fun b11 w9 x9 a9 (r9:Row w9 ⟨b11,0,none⟩ [sv,mv]) hb11=>?_))|(first|refine go1 ?_|refine zg (fun _ _=>?_)|refine zi (fun _ _=>?_)))
  have s9:=x9.size
  by_cases h0:(applyL m txs ((i+1:Nat):Int)).2.1=0
  ·obtain rfl:=E8.nilD.1 h0
   obtain ⟨hsv,hmv,hsb⟩:=hA h0
   repeat (first|(refine zI (d:=some 48) (cs:= [sv,mv]) rfl (fun b20 w20 x20 a20 hb20=>?_))|(first|refine go1 ?_|refine zg (fun _ _=>?_)|refine zi (fun _ _=>?_)))
   have s20:=x20.size
   have x820:Ext w8 w20:=x9.trans x20
   have hrel:undoR.rel (blkOf uv++([b,mb]++blkOf cv)) w20 [sv,mv] (lessL m (applyL m txs ((i+1:Nat):Int)).1,lessL (applyL m txs ((i+1:Nat):Int)).1 m):=by
    have hlt:∀y∈blkOf uv++([b,mb]++blkOf cv),y<w7b.heap.size:=fun y hy=>by
     simp only [List.mem_append] at hy
     rcases hy with hy|hy|hy
     ·have:=oul y hy;omega
     ·have:=hM7 y hy;omega
     ·have:=ocl y hy;omega
    exact ⟨sv,mv,rfl,(hsv.en fun y hy hm=>by have:=hsb y (.inl hy);have:=hlt y hm;omega).ext x820,(hmv.en fun y hy hm=>by have:=hsb y (.inr hy);have:=hlt y hm;omega).ext x820⟩
   have hll:=undosL_len (H++ [m])
   refine st_append1 (d:=some 49) (E:=undoR) (M:= [b,mb]++blkOf cv) (v:=uv) (cs:= [sv,mv]) (a:=(lessL m (applyL m txs ((i+1:Nat):Int)).1,lessL (applyL m txs ((i+1:Nat):Int)).1 m)) rfl rfl (ou8.ext x820) (Nat.le_trans x08.size x820.size) rfl rfl a20 hrel (by rw [hll];simp;omega) (fun uv' w21 o21 c21 hbu=>?_)
   rw [←undosL_snoc] at o21
   have s21:=c21.size
   have oc21:OwnR setR T.P_coins_Set w.heap.size ([b,mb]++blkOf uv') w21 cv H:=(oc8.ext x820).step c21 (fun y hy=>⟨(hduv y hy).1,.inl (List.mem_append_right _ hy)⟩) (fun y hy=>by
    rcases List.mem_append.1 hy with hy|hy
    ·exact .inl (List.mem_append_left _ hy)
    ·exact (hbu y hy).imp (List.mem_append_right _) id)
   have hm21:SlR enR ([b,mb]++blkOf uv'++blkOf cv) w21 lv m:=(hm8.ext x820).step c21 (fun y hy=>.inl (by simp [hy])) (fun y hy=>by
    simp only [List.mem_append] at hy ⊢
    rcases hy with (hy|hy)|hy
    ·exact .inl (.inl (.inl hy))
    ·exact (hbu y hy).imp (fun h=>.inl (.inr h)) id
    ·exact .inl (.inr hy))
   have hT21:SlR txR ([b,mb]++blkOf uv++blkOf cv) w21 vtx txs:=(hT8.ext x820).step c21 (fun y hy=>.inl (by simp [hy])) (fun y hy=>.inl hy)
   have hU20:∀y∈blkOf uv',y∈blkOf uv∨w20.heap.size≤y:=hbu
   have S8':=S'8.ext x820
   have l8':=S8'.lt
   have S21':=S8'.chg c21 (fun h=>by have:=oul _ h;omega) (fun h=>by have:=oul _ h;omega)
   have S21:=(S8.ext x820).chg c21 (fun h=>(hduv _ h).2 (by simp)) (fun h=>(hduv _ h).2 (by simp))
   repeat (first|(refine zI (d:=some 52) (cs:= [.pointer (some ⟨b',0,none⟩)]) rfl (fun b22 w22 x22 a22 hb22=>?_))|(first|refine go1 ?_|refine zg (fun _ _=>?_)|refine zi (fun _ _=>?_)))
   have s22:=x22.size
   have hbn:∀y,w7.heap.size≤y→y<w8.heap.size→y∉blkOf cv++([b,mb]++blkOf uv'):=fun y h1 h2 hm=>by
    simp only [List.mem_append] at hm
    rcases hm with hm|hm|hm
    ·have:=ocl y hm;omega
    ·have:=hM7 y hm;omega
    ·rcases hbu y hm with h|h
     ·have:=oul y h;omega
     ·omega
   have hrelc:setR.rel (blkOf cv++([b,mb]++blkOf uv')) w22 [.pointer (some ⟨b',0,none⟩)] m:=⟨b',mb',rfl,S21'.ext x22,hbn b' hb' (by omega),hbn mb' hmb' (by omega)⟩
   have x021:Ext w w21:=(Ext.chg (x08.trans x820) c21).mono (fun y hy=>.inr (oub y hy))
   refine st_append1 (d:=some 53) (E:=setR) (M:= [b,mb]++blkOf uv') (v:=cv) (cs:= [.pointer (some ⟨b',0,none⟩)]) (a:=m) rfl rfl (oc21.ext x22) (Nat.le_trans x021.size x22.size) rfl rfl a22 hrelc (by omega) (fun cv' w23 o23 c23 hbc=>?_)
   have s23:=c23.size
   have hduv':∀y∈blkOf uv',y∉blkOf cv∧y∉ [b,mb]:=fun y hy=>by
    rcases hbu y hy with h|h
    ·exact hduv y h
    ·exact ⟨fun hm=>by have:=ocl y hm;omega,fun hm=>by have:=hM7 y hm;omega⟩
   have hlu:=o21.lt
   have o23u:OwnR undoR T.block_Undo w.heap.size ([b,mb]++blkOf cv') w23 uv' (undosL ((H++ [m])++ [(applyL m txs ((i+1:Nat):Int)).1])):=(o21.ext x22).step c23 (fun y hy=>⟨fun h=>(hduv' y h).1 hy,.inl (List.mem_append_right _ hy)⟩) (fun y hy=>by
    rcases List.mem_append.1 hy with hy|hy
    ·exact .inl (List.mem_append_left _ hy)
    ·exact (hbc y hy).imp (List.mem_append_right _) id)
   have hm23:SlR enR ([b,mb]++blkOf uv'++blkOf cv') w23 lv m:=(hm21.ext x22).step c23 (fun y hy=>.inl (by simp [hy])) (fun y hy=>by
    simp only [List.mem_append] at hy ⊢
    rcases hy with hy|hy
    ·exact .inl (.inl hy)
    ·exact (hbc y hy).imp (fun h=>.inr h) id)
   have hT23:SlR txR ([b,mb]++blkOf uv++blkOf cv) w23 vtx txs:=(hT21.ext x22).step c23 (fun y hy=>.inl (by simp [hy])) (fun y hy=>.inl hy)
   have S23:=(S21.ext x22).chg c23 (fun h=>hdcv _ h (by simp)) (fun h=>hdcv _ h (by simp))
   have x023:Ext w w23:=(Ext.chg (x021.trans x22) c23).mono (fun y hy=>.inr (ocb y hy))
   have hlc:=o23.lt
   repeat (first|refine go1 ?_|refine zg (fun _ _=>?_)|refine zi (fun _ _=>?_))
   rw [ek]
   refine zC (d:=some 59) rfl (apply12n_spec (M:= [b,mb]++blkOf uv++blkOf cv) (l:=m) (txs:=txs) ((i+1:Nat):Int) _ hm23.en g4 sc4 hT23 hsm (by omega) (by omega)) ?_
   rintro _ w24 ⟨vl,rfl,hvl,hnew,x24⟩
   have hvl':SlR enR ([b,mb]++blkOf uv'++blkOf cv') w24 vl (applyL m txs ((i+1:Nat):Int)).1:=by
    rcases hnew with ⟨rfl,e⟩|hf
    ·rw [e];exact hm23.ext x24
    ·refine hvl.en fun y hy hm=>?_
     have:=hf y hy
     simp only [List.mem_append] at hm
     rcases hm with (hm|hm)|hm
     ·have:=hM7 y hm;omega
     ·have:=hlu y hm;omega
     ·have:=hlc y hm;omega
   repeat (first|refine go1 ?_|refine zg (fun _ _=>?_)|refine zi (fun _ _=>?_))
   refine ⟨(i+1,vl,H++ [m],(applyL m txs ((i+1:Nat):Int)).1,uv',cv'),⟨rfl,rfl,rfl,rfl,rfl,rfl,rfl,trivial⟩,⟨x023.trans x24,by simp only;omega,S23.ext x24,hvl',gn,scn,by simp only;omega,o23u.ext x24,o23.ext x24,fun y hy=>⟨fun hm=>?_,(hduv' y hy).2⟩,fun y hy hm=>?_,?_,fun x hx=>?_,by simp;omega⟩,by simp only;omega⟩
   ·rcases hbc y hm with h|h
    ·exact (hduv' y hy).1 h
    ·have:=hlu y hy;omega
   ·rcases hbc y hy with h|h
    ·exact hdcv y h hm
    ·have:=hM7 y hm;omega
   ·simp only
    rw [getD_app _ _ _ 0 (by simp)];exact hA0
   ·simp only [List.mem_append,List.mem_singleton] at hx
    rcases hx with hx|rfl
    ·exact ⟨(hHg x hx).1,by have:=(hHg x hx).2;simp only;omega⟩
    ·exact ⟨g4,by simp only;omega⟩
  ·obtain ⟨et,eu,rfl⟩:=E8.nilD.2 h0
   rw [kb h0] at S8
   repeat (first|refine go1 ?_|refine zg (fun _ _=>?_)|refine zi (fun _ _=>?_))
   exact ⟨(i+1,lv,H,m,uv,cv),⟨rfl,rfl,rfl,rfl,rfl,rfl,rfl,trivial⟩,⟨x08.trans x9,by simp only;omega,S8.ext x9,hm8.ext x9,g4,sc4,by simp only;omega,ou8.ext x9,oc8.ext x9,hduv,hdcv,hA0,fun x hx=>⟨(hHg x hx).1,by have:=(hHg x hx).2;simp only;omega⟩,by simp only;omega⟩,by simp only;omega⟩
 ·have hll:=undosL_len (H++ [m])
  have hlA:(H++ [m]).length - 1=H.length:=by simp
  rw [hlA] at hll
  have hAg:∀k,k≤H.length→CG ((H++ [m]).getD k [])∧((H++ [m]).getD k []).length≤90:=fun k hk=>by
   by_cases hk2:k<H.length
   ·rw [getD_app _ _ _ k hk2,List.getD_eq_getElem?_getD,List.getElem?_eq_getElem hk2]
    obtain ⟨h1,h2⟩:=hHg _ (List.getElem_mem hk2)
    exact ⟨h1,by simp only [Option.getD_some];omega⟩
   ·have:k=H.length:=by omega
    subst this
    rw [getD_last]
    exact ⟨g4,by omega⟩
  have hcur:(H++ [m]).getD H.length []=m:=getD_last _ _ _
  have su:SlR undoR ([b,mb]++blkOf cv) w4 uv (undosL (H++ [m])):=ou.sl (fun y hy hv=>by
   rcases List.mem_append.1 hy with hy|hy
   ·exact (hduv y hv).2 hy
   ·exact (hduv y hv).1 hy)
  repeat (first|(refine zG (d:=some 66) (E:=undoR) (M:= [b,mb]++blkOf cv) (l:=undosL (H++ [m])) rfl su ?_;rw [hll])|(first|refine go1 ?_|refine zg (fun _ _=>?_)|refine zi (fun _ _=>?_)))
  refine c_loopV (fun (k:Nat) w'=>Chg [b,mb] w4 w'∧Ext w w'∧k≤H.length∧SetP T.coins_Set w' b mb ((H++ [m]).getD k [])) (fun k=> [(3,.pointer (some ⟨b,0,none⟩)),(5,uv),(6,cv),(13,.int .i64 (((k:Nat):Int) - 1))]) (fun k=>k) H.length ⟨rfl,rfl,rfl,rfl,trivial⟩ ⟨Chg.refl _ _,x4,Nat.le_refl _,by rw [hcur];exact S4⟩ ?_
  rintro k ρ w5 ⟨c5,x5,hk,S5⟩
  have ou5:OwnR undoR T.block_Undo w.heap.size ([b,mb]++blkOf cv) w5 uv (undosL (H++ [m])):=ou.step c5 (fun y hy=>⟨fun h=>(hduv y h).2 hy,.inl (List.mem_append_left _ hy)⟩) (fun y hy=>.inl hy)
  have oc5:OwnR setR T.P_coins_Set w.heap.size ([b,mb]++blkOf uv) w5 cv H:=oc.step c5 (fun y hy=>⟨fun h=>hdcv y h hy,.inl (List.mem_append_left _ hy)⟩) (fun y hy=>.inl hy)
  repeat (first|refine go1 ?_|refine zg (fun _ _=>?_)|refine zi (fun _ _=>?_))
  refine zL (x:=.tmp 69) (p:=((k:Nat):Int) - 1≥0) rfl (fun h7=>?_) (fun h7=>?_)
  ·obtain ⟨j,rfl⟩:∃j,k=j+1:=⟨k - 1,by omega⟩
   rw [show ((j+1:Nat):Int) - 1=(j:Nat) by omega]
   have hjl:j<(undosL (H++ [m])).length:=by rw [hll];omega
   have hjH:j<H.length:=by omega
   have eu:=undosL_at (H++ [m]) j hjl
   obtain ⟨g1,n1⟩:=hAg j (by omega)
   obtain ⟨g2,n2⟩:=hAg (j+1) hk
   have eH:H[j]=(H++ [m]).getD j []:=by rw [getD_app _ _ _ j hjH,List.getD_eq_getElem?_getD,List.getElem?_eq_getElem hjH];rfl
   generalize hA1:(H++ [m]).getD j []=A1 at*
   generalize (H++ [m]).getD (j+1) []=A2 at*
   have ll1:=lessL_len A1 A2
   have ll2:=lessL_len A2 A1
   have hsw:=swap_less g2 g1
   repeat (first|(refine st_elemO (d:=some 75) (v:=uv) (E:=undoR) (M:= [b,mb]++blkOf cv) (B:=w.heap.size) (t:=T.block_Undo) rfl rfl (n:=j) (l:=undosL (H++ [m])) ou5 rfl hjl (fun ad cs r4 he=>?_);rw [eu] at he;obtain ⟨sv,mv,rfl,hsv,hmv⟩:=he)|(first|refine go1 ?_|refine zg (fun _ _=>?_)|refine zi (fun _ _=>?_)))
   refine zC (d:=some 77) rfl (brevert_spec (l:=A2) (spent:=lessL A1 A2) (made:=lessL A2 A1) _ S5 (hsv.sub (fun y hy=>.inl (by simp at hy;rcases hy with rfl|rfl<;>simp))) (hmv.sub (fun y hy=>.inl (by simp at hy;rcases hy with rfl|rfl<;>simp))) (by omega) (by omega) (by rw [hsw])) ?_
   rw [hsw]
   rintro _ w6 ⟨rfl,S6,c6⟩
   have S6:SetP T.coins_Set w6 b mb A1:=S6
   have c46:Chg [b,mb] w4 w6:=(c5.trans c6).mono (fun y hy=>.inl (by simp at hy ⊢;omega))
   have x06:Ext w w6:=(Ext.chg x5 c6).mono (fun y hy=>.inr (hMb y hy))
   have oc6:OwnR setR T.P_coins_Set w.heap.size ([b,mb]++blkOf uv) w6 cv H:=oc5.step c6 (fun y hy=>⟨fun h=>hdcv y h hy,.inl (List.mem_append_left _ hy)⟩) (fun y hy=>.inl hy)
   clear ou5 oc5 hsv hmv r4 c5 S5 c6 x5 x4 x1
   repeat (first|(refine zg (fun w7 x7=>?_))|(refine st_joinV (b:=.cons ⟨some 85,_,_⟩ _) (fun (p:Value × Nat × Nat) w'=>Ext w6 w'∧SlE entE w' p.1 A1∧SetP T.coins_Set w' p.2.1 p.2.2 A1) (fun p=> [(3,.pointer (some ⟨b,0,none⟩)),(5,uv),(6,cv),(13,.int .i64 (j:Nat)),(80,p.1),(84,.pointer (some ⟨p.2.1,0,none⟩))]) ?_ ?_)|(first|refine go1 ?_|refine zg (fun _ _=>?_)|refine zi (fun _ _=>?_)))
   ·repeat' (first|(refine zB ?_ ?_)|(refine st_elemO (d:=some 83) (v:=cv) (E:=setR) (M:= [b,mb]++blkOf uv) (B:=w.heap.size) (t:=T.P_coins_Set) rfl rfl (n:=j) (l:=H) (OwnR.ext (w:=w6) oc6 (by exact fx)) rfl hjH (fun ad cs r8 he=>?_);rw [eH] at he;obtain ⟨bj,mbj,rfl,hSj, -⟩:=he)|(refine zC (d:=some 80) rfl (pall_spec _ (SetP.ext (w:=w6) (by exact fx) S6) (by omega)) ?_;rintro av w8 ⟨hav, -,x8⟩)|(first|refine go1 ?_|refine zg (fun _ _=>?_)|refine zi (fun _ _=>?_)))
    all_goals exact ⟨(av,bj,mbj),⟨rfl,rfl,rfl,rfl,rfl,rfl,trivial⟩,by exact fx,hav.ext (by exact fx),hSj.ext (by exact fx)⟩
   rintro ⟨av,bj,mbj⟩ ρ w9 ⟨x9,hav,hSj⟩
   simp only at hav hSj
   refine zC (d:=some 85) rfl (pall_spec _ hSj (by omega)) ?_
   rintro bv w10 ⟨hbv, -,x10⟩
   have S10:=(S6.ext x9).ext x10
   have hSj10:=hSj.ext x10
   have oc10:=(oc6.ext x9).ext x10
   have hav10:=hav.ext x10
   have x610:Ext w6 w10:=x9.trans x10
   clear x7 x9 x10 hav hSj
   repeat (first|(refine zg (fun w11 x11=>?_))|(refine st_joinV (b:=.cons ⟨some 98,_,_⟩ _) (fun (p:Nat × Nat) w'=>Ext w10 w'∧SetP T.coins_Set w' p.1 p.2 A1) (fun p=> [(3,.pointer (some ⟨b,0,none⟩)),(5,uv),(6,cv),(13,.int .i64 (j:Nat)),(14,av),(15,bv),(91,.bool false),(93,.int .i64 (tot A1)),(97,.pointer (some ⟨p.1,0,none⟩))]) ?_ ?_)|(first|refine go1 ?_|refine zg (fun _ _=>?_)|refine zi (fun _ _=>?_)))
   ·repeat' (first|(refine st_len (d:=some 87) rfl (SlE.ext (w:=w10) (by exact fx) hav10) ?_)|(refine st_len (d:=some 89) rfl (SlE.ext (w:=w10) (by exact fx) hbv) ?_)|(refine st_fixV (d:=some 90) (.bool false) rfl (congrArg (fun b=>some (Value.bool (!b))) (decide_eq_true rfl)) ?_)|(refine zB ?_ ?_)|(refine st_elemO (d:=some 96) (v:=cv) (E:=setR) (M:= [b,mb]++blkOf uv) (B:=w.heap.size) (t:=T.P_coins_Set) rfl rfl (n:=j) (l:=H) (OwnR.ext (w:=w10) oc10 (by exact fx)) rfl hjH (fun ad cs r8 he=>?_);rw [eH] at he;obtain ⟨bj,mbj,rfl,hSj, -⟩:=he)|(refine zC (d:=some 93) rfl (ptotal_spec _ (SetP.ext (w:=w10) (by exact fx) S10)) ?_;rintro _ w12 ⟨rfl,x12⟩)|(first|refine go1 ?_|refine zg (fun _ _=>?_)|refine zi (fun _ _=>?_)))
    all_goals exact ⟨(bj,mbj),⟨rfl,rfl,rfl,rfl,rfl,rfl,rfl,rfl,rfl,trivial⟩,by exact fx,hSj.ext (by exact fx)⟩
   rintro ⟨bj,mbj⟩ ρ w13 ⟨x13,hSj⟩
   simp only at hSj
   repeat (first|refine go1 ?_|refine zg (fun _ _=>?_)|refine zi (fun _ _=>?_))
   refine zC (d:=some 98) rfl (ptotal_spec _ hSj) ?_
   rintro _ w14 ⟨rfl,x14⟩
   have x1014:Ext w10 w14:=x13.trans x14
   have hav14:=hav10.ext x1014
   have hbv14:=hbv.ext x1014
   clear x11 x13 x14
   repeat (first|(refine st_fixV (d:=some 99) (.bool false) rfl (congrArg (fun b=>some (Value.bool (!b))) (decide_eq_true rfl)) ?_)|(refine st_len (d:=some 102) rfl hav14 ?_)|(first|refine go1 ?_|refine zg (fun _ _=>?_)|refine zi (fun _ _=>?_)))
   refine c_loopV (fun (q:Nat) w'=>Ext w14 w'∧q≤A1.length) (fun q=> [(3,.pointer (some ⟨b,0,none⟩)),(5,uv),(6,cv),(13,.int .i64 (j:Nat)),(14,av),(15,bv),(101,av),(102,.int .i64 (A1.length:Nat)),(103,.int .i64 (q:Nat))]) (fun q=>A1.length - q) 0 ⟨rfl,rfl,rfl,rfl,rfl,rfl,rfl,rfl,rfl,trivial⟩ ⟨Ext.refl _,by simp⟩ ?_
   rintro q ρ w15 ⟨x15,hq⟩
   repeat (first|refine go1 ?_|refine zg (fun _ _=>?_)|refine zi (fun _ _=>?_))
   refine zL (x:=.tmp 104) (p:=((q:Nat):Int)<((A1.length:Nat):Int)) rfl (fun h8=>?_) (fun h8=>?_)
   ·have hql:q<A1.length:=by omega
    repeat (first|(refine st_elemE (d:=some 108) (E:=entE) rfl rfl (n:=q) (l:=A1) (SlE.ext (w:=w14) (by exact fx) hav14) rfl hql (fun ad1 ra=>?_))|(refine st_elemE (d:=some 112) (E:=entE) rfl rfl (n:=q) (l:=A1) (SlE.ext (w:=w14) (by exact fx) hbv14) rfl hql (fun ad2 rb=>?_))|(refine st_fixV (d:=some 114) (.bool false) rfl (en_ne2 A1[q]) ?_)|(first|refine go1 ?_|refine zg (fun _ _=>?_)|refine zi (fun _ _=>?_)))
    exact ⟨q+1,⟨rfl,rfl,rfl,rfl,rfl,rfl,rfl,rfl,rfl,trivial⟩,⟨by exact fx,by omega⟩,by omega⟩
   ·repeat (first|refine go1 ?_|refine zg (fun _ _=>?_)|refine zi (fun _ _=>?_))
    have x615:Ext w6 w15:=(x610.trans x1014).trans x15
    exact ⟨j,⟨rfl,rfl,rfl,rfl,trivial⟩,⟨c46.ext x615,x06.trans x615,by omega,by rw [hA1];exact S6.ext x615⟩,by omega⟩
  ·have ek:k=0:=by omega
   subst ek
   rw [hA0] at S5
   repeat (first|refine go1 ?_|refine zg (fun _ _=>?_)|refine zi (fun _ _=>?_))
   refine zC (d:=some 116) rfl (wakes12_spec _ (hg.ext x5)) ?_
   rintro _ w6 ⟨rfl,x6⟩
   repeat (first|refine go1 ?_|refine zg (fun _ _=>?_)|refine zi (fun _ _=>?_))
   refine zC (d:=some 119) rfl (plen_spec _ (S5.ext x6)) ?_
   rintro _ w7 ⟨rfl,x7⟩
   repeat (first|refine go1 ?_|refine zg (fun _ _=>?_)|refine zi (fun _ _=>?_))
   exact x_ret rfl ⟨rfl,(x5.trans x6).trans x7⟩
end Go.Proofs.YtbidkcjendncaaaGreatDoor
end
section
namespace Go.K
open Go Go.Proofs.YtbidkcjendncaaaGreatDoor
theorem take_ok {m:List En} (h:Srt m) {p:Pt} {c:Cn} (h0:refTakeCode m p=0) (hc:refCoin m p=c):aget m p=some c:=by
 have h1:=take_code (List.Perm.refl m) h p
 have h2:=take_coin (List.Perm.refl m) h p
 rw [h0] at h1
 rw [hc] at h2
 unfold takeCode at h1
 unfold takeCoin at h2
 cases ha:aget m p with
 |none=>rw [ha] at h1;simp at h1
 |some d=>rw [ha] at h2;simp at h2;rw [h2]
theorem outs_bad:∀(xs:List En) {m:List En},CG m→(xs.map (·.1)).Nodup→(∃x∈xs,aget m x.1≠some x.2)→(outsL xs m).1=false
 | [],m,_,_,⟨x,hx,_⟩=>by simp at hx
 |y::ys,m,h,hn,⟨x,hx,hne⟩=>by
  have hn':=List.nodup_cons.1 hn
  unfold outsL
  split
  ·rename_i hc
   rcases List.mem_cons.1 hx with rfl|hx
   ·exact absurd (take_ok h.srt hc.1 hc.2) hne
   ·have hk:x.1≠y.1:=fun e=>hn'.1 (List.mem_map.2 ⟨x,hx,e⟩)
    exact outs_bad ys (h.take y.1) hn'.2 ⟨x,hx,by rw [aget_take h.srt hk];exact hne⟩
  ·rfl
theorem swap_bad {m a b:List En} (h:CG m) (hn:(a.map (·.1)).Nodup) (hx:∃x∈a,aget m x.1≠some x.2):(swapL m a b).1=false:=by
 have:=outs_bad a h hn hx
 unfold swapL
 rw [if_neg (by rw [this];decide)]
theorem aget_taken {m:List En} (h:Srt m) (p:Pt):aget (refTake m p) p=none:=by
 rw [refTake_adel h,aget_del2,if_pos rfl]
theorem aget_put {m:List En} (h:CG m) {p q:Pt} {c:Cn}:aget (refPut m p c) q=if refPutCode m p c=0∧p=q then some c else aget m q:=by
 by_cases h0:refPutCode m p c=0
 ·have hp:=put_perm h.srt h0
  have hg:=(h.put p c).nodup
  obtain ⟨-,hno, -⟩:=put_zero h0
  by_cases e:p=q
  ·subst e
   rw [if_pos ⟨h0,rfl⟩]
   exact (mem_iff_aget hg (e:=(p,c))).1 (hp.mem_iff.2 (by simp))
  ·rw [if_neg (fun x=>e x.2)]
   cases ha:aget m q with
   |some d=>exact (mem_iff_aget hg (e:=(q,d))).1 (hp.mem_iff.2 (by simp [aget_mem ha]))
   |none=>
    cases hb:aget (refPut m p c) q with
    |none=>rfl
    |some d=>
     rcases List.mem_append.1 (hp.mem_iff.1 (aget_mem hb)) with h5|h5
     ·have:=(mem_iff_aget h.nodup).1 h5
      simp only at this
      rw [ha] at this;cases this
     ·simp at h5;exact absurd h5.1.symm e
 ·rw [if_neg (fun x=>h0 x.1)]
  unfold refPut
  rw [if_neg h0]
theorem chg_ne {m:List En} (h:CG m) {p:Pt} {c d:Cn} (hd:d≠c):aget (refPut (refTake m p) p d) p≠some c:=by
 rw [aget_put (h.take p)]
 split
 ·exact fun e=>hd (by injection e)
 ·rw [aget_taken h.srt];exact fun e=>by cases e
theorem chg_back {m:List En} (h:CG m) {p:Pt} {c d:Cn} (hm:aget m p=some c):refPut (refTake (refPut (refTake m p) p d) p) p c=m:=by
 have g1:=h.take p
 have g2:=g1.put p d
 have g3:=g2.take p
 have e3:refTake (refPut (refTake m p) p d) p=refTake m p:=by
  refine srt_aget g3.srt g1.srt fun q=>?_
  by_cases e:q=p
  ·subst e;rw [aget_taken g2.srt,aget_taken h.srt]
  ·rw [aget_take g2.srt e,aget_put g1,if_neg (fun x=>e x.2.symm)]
 rw [e3]
 have hf:=h.fm _ (aget_mem hm)
 have ht:=tot_take1 h.srt hm
 have h0:refPutCode (refTake m p) p c=0:=by
  rw [refPutCode0 hf (by
   cases hi:refIdx (refTake m p) p
   ·rfl
   ·have:=isSome_idx (refTake m p) p
    rw [aget_taken h.srt,hi] at this;cases this),if_pos]
  rw [ht,show tot m - c.v+c.v=tot m by omega]
  exact h.mon.good
 refine srt_aget (g1.put p c).srt h.srt fun q=>?_
 rw [aget_put g1]
 by_cases e:q=p
 ·subst e;rw [if_pos ⟨h0,rfl⟩,hm]
 ·rw [if_neg (fun x=>e x.2.symm),aget_take h.srt e]
end Go.K
end
section
namespace Go.Proofs.YtbidkcjendncaaaGreatDoor
open Go Go.K
attribute [local irreducible] regK codeK retK KOp.wp K.Spec u32 leS vnS str zero32 checkT grantB applyL encT idT sizeT EtR lessL undosL swapL refTake refPut
set_option maxHeartbeats 16000000 in
set_option maxRecDepth 4000 in
theorem blockState_law {v:Value} {zs:List BSm} (which:UInt8) (w:World) (hg:EtR w) (hz:SlR bsmR [] w v zs):K.Spec Tryz.prog F.kedgelaw12_BlockState [v,u8V which] w fun r w'=>r=.bool true∧Ext w w':=by
 refine s_kedgelaw12_BlockState rfl ?_
 unfold k_kedgelaw12_BlockState
 refine oy ?_
 repeat (first|refine go1 ?_|refine zg (fun _ _=>?_)|refine zi (fun _ _=>?_))
 refine zC (d:=some 16) rfl (pnew_spec _) ?_
 rintro _ w1 ⟨b,mb,rfl,S1,hb1,hb2,x1⟩
 have hMb:∀y∈ [b,mb],w.heap.size≤y:=fun y hy=>by simp at hy;rcases hy with rfl|rfl;exact hb1;exact hb2
 have hM1:∀y∈ [b,mb],y<w1.heap.size:=fun y hy=>by simp at hy;rcases hy with rfl|rfl;exact S1.lt.1;exact S1.lt.2
 have hz1:SlR bsmR [b,mb] w1 v zs:=hz.step x1 (by simp) (fun y hy=>.inr (hMb y hy))
 repeat (first|refine go1 ?_|refine zg (fun _ _=>?_)|refine zi (fun _ _=>?_))
 refine zC (d:=some 18) rfl (made12b_spec (M:= [b,mb]) (l:= []) (zs:=zs) 1 _ (SlE.nil _) CG.nil SC.nil hz1 (by simp) (by omega) hM1) ?_
 rintro vtx w2 ⟨txs,oT,htl,hmk,x2⟩
 have hT:SlR txR [b,mb] w2 vtx txs:=oT.slB hM1
 have hsm:∀t∈txs,t.Sm:=fun t ht=>(hmk t ht).sm
 have hou:=outsB_mk5 hmk htl
 repeat (first|refine go1 ?_|refine zg (fun _ _=>?_)|refine zi (fun _ _=>?_))
 refine zC (d:=some 22) rfl (bapply_spec (M:= [b,mb]) (txs:=txs) (l:= []) 1 _ (S1.ext x2) CG.nil SC.nil (by simp) (by simp) (fun y hy=>Nat.lt_of_lt_of_le (hM1 y hy) x2.size) hT hsm (by simp;omega) (by omega)) ?_
 rintro _ w8 ⟨sv,mv,e,rfl,E8,S8,hA,hB,c8⟩
 have x08:Ext w w8:=(Ext.chg (x1.trans x2) c8).mono (fun y hy=>.inr (hMb y hy))
 have gn:=applyL_cg CG.nil txs 1
 have nl:=applyL_len CG.nil txs 1
 have s2:=x2.size
 have hM8:∀y∈ [b,mb],y<w8.heap.size:=fun y hy=>Nat.lt_of_lt_of_le (hM1 y hy) (Nat.le_trans s2 c8.size)
 have o12:sv.oneCell'=true∧mv.oneCell'=true:=by
  by_cases h0:(applyL [] txs 1).2.1=0
  ·obtain ⟨h1,h2, -⟩:=hA h0
   obtain ⟨_,_,q⟩:=h1.form
   obtain ⟨_,_,q2⟩:=h2.form
   rw [q,q2];exact ⟨rfl,rfl⟩
  ·obtain ⟨rfl,rfl⟩:=hB h0;exact ⟨rfl,rfl⟩
 have ones2:([sv,mv]:List Value).all (fun v=>v.oneCell')=true:=by simp [o12.1,o12.2]
 repeat (first|(refine zE (d':=7) (fun _=>rfl) rfl rfl ones2 (fun b7 w9 x9 a9 (r9:Row w9 ⟨b7,0,none⟩ [sv,mv]) hb7=>?_))|(first|refine go1 ?_|refine zg (fun _ _=>?_)|refine zi (fun _ _=>?_)))
 have l7:=a9.lt
 have x09:=x08.trans x9
 by_cases h0:(applyL [] txs 1).2.1=0
 ·obtain rfl:=E8.nilD.1 h0
  obtain ⟨hsv,hmv,hsb⟩:=hA h0
  rw [less_nil] at hsv
  rw [less_all] at hmv
  have S9:=S8.ext x9
  have hsv9:SlR enR [b,mb] w9 sv []:=(hsv.en fun y hy hm=>by have:=hsb y (.inl hy);have:=hM1 y hm;omega).ext x9
  have hmv9:SlR enR [b,mb] w9 mv (applyL [] txs 1).1:=(hmv.en fun y hy hm=>by have:=hsb y (.inr hy);have:=hM1 y hm;omega).ext x9
  have hnl:(applyL [] txs 1).1.length≤15:=by simp at nl;omega
  clear hsv hmv hsb hA hB E8 S8 c8 x08 nl hT oT hz1
  generalize (applyL [] txs 1).1=m at*
  by_cases hp:0<m.length
  ·have hw:=which.toNat_lt
   have hrem:=Nat.mod_lt which.toNat hp
   obtain ⟨n9,hn9⟩:∃n,n=which.toNat%m.length:=⟨_,rfl⟩
   have hnl9:n9<m.length:=by rw [hn9];exact hrem
   obtain ⟨x,hx⟩:∃x,x=m[n9]:=⟨_,rfl⟩
   have hxm:x∈m:=by rw [hx];exact List.getElem_mem hnl9
   have hax:=(mem_iff_aget gn.nodup).1 hxm
   have hxh:0≤x.2.h∧x.2.h≤1000000:=by
    have:=gn.fm x hxm
    simp only [formedB,Bool.and_eq_true,decide_eq_true_eq] at this
    omega
   repeat (first|(refine zG (d:=some 30) (E:=enR) (M:= [b,mb]) (l:=m) rfl hmv9 ?_)|(refine st_fixV (d:=some 31) (.bool false) rfl (congrArg (fun b=>some (Value.bool b)) (decide_eq_false (by omega))) ?_)|(refine zg (fun w10 x10=>?_))|(refine st_fixV (d:=some 37) (.int .i64 (which.toNat:Nat)) rfl (congrArg (fun n=>some (Value.int .i64 n)) (wrap_u8 which)) ?_)|(refine zG (d:=some 40) (E:=enR) (M:= [b,mb]) (l:=m) rfl (SlR.ext (w:=w9) hmv9 (by exact fx)) ?_)|(refine st_rem (d:=some 41) (n:=which.toNat) (m:=m.length) rfl rfl (by omega) ?_;rw [←hn9])|(refine st_elemE (d:=some 42) (E:=entE) rfl rfl (n:=n9) (l:=m) (SlE.ext (w:=w9) (by exact fx) hmv9.en) rfl hnl9 (fun ad9 r10=>?_);rw [←hx] at r10)|(refine zH (d:=some 9) (fun b9 w11 x11 a11 hb9=>?_))|(first|refine go1 ?_|refine zg (fun _ _=>?_)|refine zi (fun _ _=>?_)))
   repeat (first|refine go1 ?_|refine zg (fun _ _=>?_)|refine zi (fun _ _=>?_))
   refine st_storeN0 (b:=b9) (vs:=entE.f x) rfl rfl rfl (entE.one x) a11 rfl (fun w12 c12 a12=>?_)
   have s910:=x10.size
   have s1011:=x11.size
   have s09:=x09.size
   have hM9:∀y∈ [b,mb],y<w9.heap.size:=fun y hy=>Nat.lt_of_lt_of_le (hM8 y hy) x9.size
   have hb9M:b9∉ [b,mb]:=fun h=>by have:=hM9 _ h;omega
   have x911:Ext w9 w11:=x10.trans x11
   have c912:Chg [b9] w9 w12:=(Chg.trans x911 c12).mono (by simp)
   have x912:Ext w9 w12:=c912.mono (fun y hy=>.inr (by simp at hy;omega))
   have r12:Row w12 ⟨b9,0,none⟩ (entE.f x):=Row.of_at a12
   have S12:=S9.ext x912
   have r712:=Row.ext x912 r9
   have hmv12:=hmv9.ext x912
   have hsv12:=hsv9.ext x912
   have l9:=a12.lt
   have x012:=x09.trans x912
   clear x10 x11 a11 c12 x911 c912 r10
   repeat (first|refine go1 ?_|refine zg (fun _ _=>?_)|refine zi (fun _ _=>?_))
   refine zC (d:=some 47) rfl (ptake_spec x.1 _ S12) ?_
   rintro _ w13 ⟨-,S13,c13⟩
   have r13:=Row.chg c13 r12 hb9M
   have r713:=Row.chg c13 r712 (fun h=>by have:=hM8 _ h;simp only at this;omega)
   repeat (first|(refine zE (d':=10) (vs:=x.2.cs) (fun _=>rfl) rfl rfl rfl (fun b10 w14 x14 a14 (r14:Row w14 ⟨b10,0,none⟩ x.2.cs) hb10=>?_))|(first|refine go1 ?_|refine zg (fun _ _=>?_)|refine zi (fun _ _=>?_)))
   obtain ⟨d,hd⟩:∃d:Cn,d=⟨x.2.v,x.2.s,x.2.h+1⟩:=⟨_,rfl⟩
   have hdne:d≠x.2:=fun e=>by
    have:=congrArg Cn.h e
    rw [hd] at this
    simp only at this
    omega
   refine st_store (b:=b10) (o:=2) (cur:=x.2.cs) rfl rfl rfl a14 (Nat.le_of_ble_eq_true rfl) (fun w15 c15 a15=>?_)
   have a15:At w15 b10 (.cells d.cs.toArray T.api_Coin (0,0)):=by rw [hd];exact a15
   have r15:=Row.of_at a15
   have s13:=c13.size
   have s14:=x14.size
   have hb10b:w12.heap.size≤b10:=Nat.le_trans s13 hb10
   have n10:∀y∈ [b,mb],y≠b10:=fun y hy e=>by have:=hM9 y hy;have:=x912.size;omega
   have r915:=Row.chg c15 (Row.ext x14 r13) (by simp;omega)
   have hb7l:b7<w12.heap.size:=by have:=x912.size;omega
   have r715:=Row.chg c15 (Row.ext x14 r713) (by simp;omega)
   have S15:=(S13.ext x14).chg c15 (by simp;exact n10 b (by simp)) (by simp;exact n10 mb (by simp))
   have c1215:Chg [b,mb] w12 w15:=(c13.trans (Chg.trans x14 c15)).mono (fun y hy=>by
    simp at hy
    rcases hy with rfl|rfl|rfl
    ·exact .inl (by simp)
    ·exact .inl (by simp)
    ·exact .inr hb10b)
   have g1:=gn.take x.1
   clear c13 x14 c15 r13 r713 S13 a14 r14 r12 S12
   repeat (first|refine go1 ?_|refine zg (fun _ _=>?_)|refine zi (fun _ _=>?_))
   refine zC (d:=some 58) rfl (pput_spec x.1 d _ S15) ?_
   rintro _ w16 ⟨-,S16,c16⟩
   have c1216:Chg [b,mb] w12 w16:=(c1215.trans c16).mono (by simp)
   have g2:=g1.put x.1 d
   have hne:=chg_ne gn (p:=x.1) hdne
   have hbk:=chg_back gn (d:=d) hax
   have l16:=refPut_len (refTake m x.1) x.1 d g1.srt
   have l15:=refTake_len m x.1
   generalize hM2:refPut (refTake m x.1) x.1 d=M2 at*
   have r916:=Row.chg c16 r915 hb9M
   have r716:=Row.chg c16 r715 (fun h=>by have:=hM8 _ h;simp only at this;omega)
   have x016:Ext w w16:=(Ext.chg x012 c1216).mono (fun y hy=>.inr (hMb y hy))
   repeat (first|refine go1 ?_|refine zg (fun _ _=>?_)|refine zi (fun _ _=>?_))
   refine zC (d:=some 60) rfl (pall_spec _ S16 (by omega)) ?_
   rintro av w17 ⟨hav, -,x17⟩
   have hsv17:SlR enR [b,mb] w17 sv []:=(hsv12.step c1216 (fun y hy=>.inl hy) (fun y hy=>.inl hy)).ext x17
   have hmv17:SlR enR [b,mb] w17 mv m:=(hmv12.step c1216 (fun y hy=>.inl hy) (fun y hy=>.inl hy)).ext x17
   have r717:=Row.ext x17 r716
   repeat (first|refine go1 ?_|refine zg (fun _ _=>?_)|refine zi (fun _ _=>?_))
   refine zC (d:=some 63) rfl (brevert_bad (l:=M2) (spent:= []) (made:=m) _ (S16.ext x17) hsv17 hmv17 (by simp) (by omega) (swap_bad g2 gn.nodup ⟨x,hxm,hne⟩)) ?_
   rintro _ w18 ⟨rfl,x18⟩
   repeat (first|refine go1 ?_|refine zg (fun _ _=>?_)|refine zi (fun _ _=>?_))
   refine zC (d:=some 65) rfl (pall_spec _ ((S16.ext x17).ext x18) (by omega)) ?_
   rintro bv w19 ⟨hbv, -,x19⟩
   have x1719:Ext w17 w19:=x18.trans x19
   have x1619:Ext w16 w19:=x17.trans x1719
   have hav19:=hav.ext x1719
   have r719:=Row.ext x1719 r717
   have r919:=Row.ext x1619 r916
   have S19:=S16.ext x1619
   have x019:=x016.trans x1619
   have hsv19:=hsv17.ext x1719
   have hmv19:=hmv17.ext x1719
   clear x17 x18 x19 r717 r716 r916
   repeat (first|(refine st_len (d:=some 70) rfl hbv ?_)|(refine st_len (d:=some 72) rfl hav19 ?_)|(refine st_fixV (d:=some 73) (.bool false) rfl (congrArg (fun b=>some (Value.bool (!b))) (decide_eq_true rfl)) ?_)|(refine st_len (d:=some 76) rfl hbv ?_)|(first|refine go1 ?_|refine zg (fun _ _=>?_)|refine zi (fun _ _=>?_)))
   refine c_loopV (fun (q:Nat) w'=>Ext w19 w'∧q≤M2.length) (fun q=> [(5,.pointer (some ⟨b,0,none⟩)),(7,.pointer (some ⟨b7,0,none⟩)),(9,.pointer (some ⟨b9,0,none⟩)),(11,av),(13,bv),(75,bv),(76,.int .i64 (M2.length:Nat)),(77,.int .i64 (q:Nat))]) (fun q=>M2.length - q) 0 ⟨rfl,rfl,rfl,rfl,rfl,rfl,rfl,rfl,trivial⟩ ⟨Ext.refl _,by simp⟩ ?_
   rintro q ρ w20 ⟨x20,hq⟩
   repeat (first|refine go1 ?_|refine zg (fun _ _=>?_)|refine zi (fun _ _=>?_))
   refine zL (x:=.tmp 78) (p:=((q:Nat):Int)<((M2.length:Nat):Int)) rfl (fun h8=>?_) (fun h8=>?_)
   ·have hql:q<M2.length:=by omega
    repeat (first|(refine st_elemE (d:=some 82) (E:=entE) rfl rfl (n:=q) (l:=M2) (SlE.ext (w:=w19) (by exact fx) hbv) rfl hql (fun ad1 ra=>?_))|(refine st_elemE (d:=some 86) (E:=entE) rfl rfl (n:=q) (l:=M2) (SlE.ext (w:=w19) (by exact fx) hav19) rfl hql (fun ad2 rb=>?_))|(refine st_fixV (d:=some 88) (.bool false) rfl (en_ne2 M2[q]) ?_)|(first|refine go1 ?_|refine zg (fun _ _=>?_)|refine zi (fun _ _=>?_)))
    exact ⟨q+1,⟨rfl,rfl,rfl,rfl,rfl,rfl,rfl,rfl,trivial⟩,⟨by exact fx,by omega⟩,by omega⟩
   ·have S20:=S19.ext x20
    have r920:=Row.ext x20 r919
    have r720:=Row.ext x20 r719
    have x020:=x019.trans x20
    have hsv20:=hsv19.ext x20
    have hmv20:=hmv19.ext x20
    clear x20 x1619 x1719 r919 r719 S19 hav19 hbv
    repeat (first|refine go1 ?_|refine zg (fun _ _=>?_)|refine zi (fun _ _=>?_))
    refine zC (d:=some 93) rfl (ptake_spec x.1 _ S20) ?_
    rintro _ w21 ⟨-,S21,c21⟩
    have r921:=Row.chg c21 r920 hb9M
    have r721:=Row.chg c21 r720 (fun h=>by have:=hM8 _ h;simp only at this;omega)
    repeat (first|refine go1 ?_|refine zg (fun _ _=>?_)|refine zi (fun _ _=>?_))
    refine zC (d:=some 99) rfl (pput_spec x.1 x.2 _ S21) ?_
    rintro _ w22 ⟨-,S22,c22⟩
    rw [hbk] at S22
    have c2022:Chg [b,mb] w20 w22:=(c21.trans c22).mono (by simp)
    have r722:=Row.chg c22 r721 (fun h=>by have:=hM8 _ h;simp only at this;omega)
    have hsv22:SlR enR [b,mb] w22 sv []:=hsv20.step c2022 (fun y hy=>.inl hy) (fun y hy=>.inl hy)
    have hmv22:SlR enR [b,mb] w22 mv m:=hmv20.step c2022 (fun y hy=>.inl hy) (fun y hy=>.inl hy)
    have x022:Ext w w22:=(Ext.chg x020 c2022).mono (fun y hy=>.inr (hMb y hy))
    have hsw:=swap_less gn CG.nil
    rw [less_all,less_nil] at hsw
    repeat (first|refine go1 ?_|refine zg (fun _ _=>?_)|refine zi (fun _ _=>?_))
    refine zC (d:=some 102) rfl (brevert_spec (l:=m) (spent:= []) (made:=m) _ S22 hsv22 hmv22 (by simp) (by omega) (by rw [hsw])) ?_
    rw [hsw]
    rintro _ w23 ⟨rfl,S23,c23⟩
    have S23:SetP T.coins_Set w23 b mb []:=S23
    have x023:Ext w w23:=(Ext.chg x022 c23).mono (fun y hy=>.inr (hMb y hy))
    have r723:=Row.chg c23 r722 (fun h=>by have:=hM8 _ h;simp only at this;omega)
    have hsv23:SlR enR [b,mb] w23 sv []:=hsv22.step c23 (fun y hy=>.inl hy) (fun y hy=>.inl hy)
    have hmv23:SlR enR [b,mb] w23 mv m:=hmv22.step c23 (fun y hy=>.inl hy) (fun y hy=>.inl hy)
    repeat (first|refine go1 ?_|refine zg (fun _ _=>?_)|refine zi (fun _ _=>?_))
    refine zC (d:=some 103) rfl (wakes12_spec _ (hg.ext x023)) ?_
    rintro _ w24 ⟨rfl,x24⟩
    have r724:=Row.ext x24 r723
    have hb0:(swapL [] m []).1=false:=swap_bad CG.nil gn.nodup ⟨x,hxm,fun e=>by cases e⟩
    repeat (first|refine go1 ?_|refine zg (fun _ _=>?_)|refine zi (fun _ _=>?_))
    refine zC (d:=some 111) rfl (brevert_bad (l:= []) (spent:= []) (made:=m) _ (S23.ext x24) (hsv23.ext x24) (hmv23.ext x24) (by simp) (by omega) hb0) ?_
    rintro _ w25 ⟨rfl,x25⟩
    have r725:=Row.ext x25 r724
    repeat (first|refine go1 ?_|refine zg (fun _ _=>?_)|refine zi (fun _ _=>?_))
    refine zC (d:=some 116) rfl (brevert_nil _ o12.1 o12.2) ?_
    rintro _ w26 ⟨rfl,x26⟩
    repeat (first|refine go1 ?_|refine zg (fun _ _=>?_)|refine zi (fun _ _=>?_))
    exact x_ret rfl ⟨rfl,(x023.trans x24).trans (x25.trans x26)⟩
  ·repeat (first|(refine zG (d:=some 30) (E:=enR) (M:= [b,mb]) (l:=m) rfl hmv9 ?_)|(refine st_fixV (d:=some 31) (.bool true) rfl (congrArg (fun b=>some (Value.bool b)) (decide_eq_true (by omega))) ?_)|(first|refine go1 ?_|refine zg (fun _ _=>?_)|refine zi (fun _ _=>?_)))
   refine zC (d:=some 33) rfl (wakes12_spec _ (hg.ext x09)) ?_
   rintro _ w10 ⟨rfl,x10⟩
   repeat (first|refine go1 ?_|refine zg (fun _ _=>?_)|refine zi (fun _ _=>?_))
   exact x_ret rfl ⟨rfl,x09.trans x10⟩
 ·obtain ⟨et,eu,rfl⟩:=E8.nilD.2 h0
  repeat (first|refine go1 ?_|refine zg (fun _ _=>?_)|refine zi (fun _ _=>?_))
  refine zC (d:=some 33) rfl (wakes12_spec _ (hg.ext x09)) ?_
  rintro _ w10 ⟨rfl,x10⟩
  repeat (first|refine go1 ?_|refine zg (fun _ _=>?_)|refine zi (fun _ _=>?_))
  exact x_ret rfl ⟨rfl,x09.trans x10⟩
end Go.Proofs.YtbidkcjendncaaaGreatDoor
end
section
namespace Go.Proofs.YtbidkcjendncaaaGreatDoor
open Go Go.K Go.ChangeShapes Go.WideShapes Go.ChangeAt Go.RowKit
set_option maxRecDepth 100000
theorem c_in:Tryz.prog.cellsOf 148=4:=by kernel_rfl
theorem c_out:Tryz.prog.cellsOf 48=2:=by kernel_rfl
theorem c_tx:Tryz.prog.cellsOf 63=4:=by kernel_rfl
theorem c_lin:Tryz.prog.cellsOf 60=1:=by kernel_rfl
theorem c_lout:Tryz.prog.cellsOf 61=1:=by kernel_rfl
theorem c_lstring:Tryz.prog.cellsOf 85=1:=by kernel_rfl
theorem reads_ins {W:World} {c:List Value} (h:Reads Tryz.prog W 148 c):∃x:TIn,inR.rel [] W c x∧x.wit.length≤9223372036854775807:=by
 obtain ⟨h1,h2⟩:=reads_struct Tryz.underlying148 h
 have l:c.length=4:=h1.trans c_in
 match c,l with
 | [c0,c1,c2,c3],_=>
  have g0:=h2 _ (List.mem_of_getElem? (i:=0) rfl)
  have g1:=h2 _ (List.mem_of_getElem? (i:=1) rfl)
  have g2:=h2 _ (List.mem_of_getElem? (i:=2) rfl)
  obtain ⟨p,e0,hp⟩:=reads_point g0
  obtain ⟨q,e1,hq⟩:=reads_u32 g1
  simp only [c_lstring,List.drop_zero,List.drop_succ_cons,List.take_succ_cons,List.take_zero] at g2
  obtain ⟨wl,hw,hwl⟩:=reads_slR strR Tryz.underlying85 (by kernel_rfl) (fun c hc=>by
   obtain ⟨s,e,_⟩:=reads_string Tryz.underlying9 hc
   exact ⟨s,by subst e;rfl⟩) g2
  simp only [c_point,c_u32,List.drop_zero,List.drop_succ_cons,List.take_succ_cons,List.take_zero,List.cons.injEq,and_true] at e0 e1
  refine ⟨⟨p,q,wl⟩,⟨c3,?_,hw,hp,hq⟩,hwl⟩
  have e:p.cs= [.string p.s,.int .u32 p.i]:=rfl
  rw [e] at e0
  simp only [List.cons.injEq,and_true] at e0
  rw [e0.1,e0.2,e1];rfl
theorem reads_out {W:World} {c:List Value} (h:Reads Tryz.prog W 48 c):∃y:TOut,outR.rel [] W c y:=by
 obtain ⟨h1,h2⟩:=reads_struct Tryz.underlying48 h
 have l:c.length=2:=h1.trans c_out
 match c,l with
 | [c0,c1],_=>
  have g0:=h2 _ (List.mem_of_getElem? (i:=0) rfl)
  have g1:=h2 _ (List.mem_of_getElem? (i:=1) rfl)
  obtain ⟨v,e0,hv⟩:=reads_i64 g0
  obtain ⟨s,e1,_⟩:=reads_string Tryz.underlying9 g1
  simp only [c_string,c_int,List.drop_zero,List.drop_succ_cons,List.take_succ_cons,List.take_zero,List.cons.injEq,and_true] at e0 e1
  exact ⟨⟨v,s⟩,by rw [e0,e1];rfl,hv⟩
theorem reads_tx {W:World} {c:List Value} (h:Reads Tryz.prog W 63 c):∃t:Tx,txR.rel [] W c t∧t.Raw:=by
 obtain ⟨h1,h2⟩:=reads_struct Tryz.underlying63 h
 have l:c.length=4:=h1.trans c_tx
 match c,l with
 | [c0,c1,c2,c3],_=>
  have g0:=h2 _ (List.mem_of_getElem? (i:=0) rfl)
  have g1:=h2 _ (List.mem_of_getElem? (i:=1) rfl)
  have g2:=h2 _ (List.mem_of_getElem? (i:=2) rfl)
  have g3:=h2 _ (List.mem_of_getElem? (i:=3) rfl)
  obtain ⟨v,e0,hv⟩:=reads_u32 g0
  obtain ⟨k,e3,hk⟩:=reads_u32 g3
  simp only [c_lin,c_lout,List.drop_zero,List.drop_succ_cons,List.take_succ_cons,List.take_zero] at g1 g2
  obtain ⟨ins,hi,hil⟩:=reads_slR (inR.and fun x=>x.wit.length≤9223372036854775807) Tryz.underlying60 c_in (fun c hc=>reads_ins hc) g1
  obtain ⟨outs,ho,hol⟩:=reads_slR outR Tryz.underlying61 c_out (fun c hc=>reads_out hc) g2
  simp only [c_u32,List.drop_zero,List.drop_succ_cons,List.take_succ_cons,List.take_zero,List.cons.injEq,and_true] at e0 e3
  obtain ⟨hi1,hi2⟩:=SlR.both hi
  exact ⟨⟨v,ins,outs,k⟩,⟨c1,c2,by rw [e0,e3];rfl,hi1,ho,hv,hk⟩,hil,hol,hi2⟩
theorem reads_txs {W:World} {v:Value} (h:Reads Tryz.prog W 29 [v]):∃l,(SlR txR [] W v l∧∀t∈l,t.Raw)∧l.length≤maxLen:=by
 obtain ⟨l,hl,hn⟩:=reads_slR (txR.and Tx.Raw) Tryz.underlying29 c_tx (fun c hc=>reads_tx hc) h
 exact ⟨l,SlR.both hl,hn⟩
end Go.Proofs.YtbidkcjendncaaaGreatDoor
end
section
namespace Go.Proofs.YtbidkcjendncaaaGreatDoor
open Go Go.K
attribute [local irreducible] regK codeK retK KOp.wp K.Spec u32 leS vnS str zero32 checkT applyL encT idT sizeT EtR lessL
theorem cut_sm4 {t:Tx} (h:t.Cut 4):t.Sm:=⟨by have:=h.ins;omega,by have:=h.outs;omega,fun x hx=>by have:=h.wit x hx;omega⟩
theorem outsB_cut:∀{txs:List Tx},(∀t∈txs,t.Cut 4)→outsB txs≤4*txs.length
 | [],_=>by simp [outsB]
 |t::ts,h=>by
  have h1:=outsB_cut (txs:=ts) fun t ht=>h t (by simp [ht])
  have h2:=(h t (by simp)).outs
  have e:outsB (t::ts)=t.outs.length+outsB ts:=by simp [outsB]
  rw [e,List.length_cons];omega
set_option maxHeartbeats 16000000 in
set_option maxRecDepth 4000 in
theorem blockRaw_law {v:Value} {l:List Tx} (height:Int) (w:World) (hg:EtR w) (hz:SlR txR [] w v l) (hraw:∀t∈l,t.Raw):K.Spec Tryz.prog F.kedgelaw12_BlockRaw [v,.int .i64 height] w fun r w'=>r=.bool true∧Ext w w':=by
 refine s_kedgelaw12_BlockRaw rfl ?_
 unfold k_kedgelaw12_BlockRaw
 refine oy ?_
 repeat (first|(refine zG (d:=some 17) (E:=txR) (M:= []) (l:=l) rfl (SlR.ext hz (by exact fx)) ?_)|(refine st_takeR (d:=some 19) (E:=txR) (n:=min l.length 4) rfl rfl (by omega) hz (by omega) rfl (fun v' hv'=>?_))|(refine zG (d:=some 20) (E:=txR) (M:= []) (l:=l.take (min l.length 4)) rfl (SlR.ext hv' (by exact fx)) ?_)|(first|refine go1 ?_|refine zg (fun _ _=>?_)|refine zi (fun _ _=>?_)))
 have hSl:(l.take (min l.length 4)).length≤4:=by rw [List.length_take];omega
 have hSr:∀t∈l.take (min l.length 4),t.Raw:=fun t ht=>hraw t (List.mem_of_mem_take ht)
 generalize l.take (min l.length 4)=S at*
 refine c_loopV (fun (p:Nat × Value × List Tx) w'=>Ext w w'∧p.1≤S.length∧OwnR txR T.api_Tx w.heap.size [] w' p.2.1 p.2.2∧p.2.2.length=p.1∧∀t∈p.2.2,t.Cut 4) (fun p=> [(1,.int .i64 height),(5,p.2.1),(19,v'),(20,.int .i64 (S.length:Nat)),(21,.int .i64 (p.1:Nat))]) (fun p=>S.length - p.1) (0,.slice none 0 0, []) ⟨rfl,rfl,rfl,rfl,rfl,trivial⟩ ⟨Ext.refl _,by simp,OwnR.nil _ _ _ _,rfl,by simp⟩ ?_
 rintro ⟨i,vo,txs⟩ ρ w1 ⟨x1,hi,o1,htl,hcut⟩
 simp only at hi o1 htl hcut
 dsimp only
 have s1:=x1.size
 repeat (first|refine go1 ?_|refine zg (fun _ _=>?_)|refine zi (fun _ _=>?_))
 refine zL (x:=.tmp 22) (p:=((i:Nat):Int)<((S.length:Nat):Int)) rfl (fun h5=>?_) (fun h5=>?_)
 ·have hil:i<S.length:=by omega
  have ob:=o1.base
  have ol:=o1.lt
  have hvM:SlR txR (blkOf vo++ []) w1 v' S:=hv'.step x1 (by simp) (mem_app ob)
  have hri:=hSr _ (List.getElem_mem hil)
  repeat (first|(refine st_elemR (d:=some 23) (E:=txR) (M:=blkOf vo++ []) rfl rfl (n:=i) (l:=S) hvM rfl hil (fun ad cs r4 he=>?_);have ones:=txR.one he;obtain ⟨iv,ov,rfl, -⟩:=id he)|(refine zE (d':=7) (fun _=>rfl) rfl rfl (List.all_eq_true.2 ones) (fun b7 w2 x2 a7 (r7:Row w2 ⟨b7,0,none⟩ (txCs S[i] iv ov)) hb7=>?_))|(first|refine go1 ?_|refine zg (fun _ _=>?_)|refine zi (fun _ _=>?_)))
  have s2:=x2.size
  refine zC (d:=some 27) rfl (cut_spec (M:=blkOf vo++ []) (cs:=txCs S[i] iv ov) (t:=S[i]) 4 _ (R.ext he x2) hri (by decide) (fun y hy=>by simp at hy;have:=ol y hy;omega)) ?_
  rintro _ w3 ⟨cs',t,rfl,t3,hc3,x3⟩
  have ht3:=t3.rel (fun y hy=>by simp at hy;have:=ol y hy;omega)
  have ones3:=txR.one ht3
  have hl4:=txR.len ht3
  obtain ⟨c0,c1,c2,c3,rfl⟩:∃c0 c1 c2 c3,cs'= [c0,c1,c2,c3]:=by
   match cs',hl4 with
   | [c0,c1,c2,c3],_=>exact ⟨c0,c1,c2,c3,rfl⟩
  repeat (first|(refine zI (d:=some 28) (cs:= [c0,c1,c2,c3]) rfl (fun b5 w5 x5 a5 hb5=>?_))|(first|refine go1 ?_|refine zg (fun _ _=>?_)|refine zi (fun _ _=>?_)))
  have x15:Ext w1 w5:=(x2.trans x3).trans x5
  refine st_append1 (d:=some 29) (E:=txR) (M:= []) (v:=vo) (cs:= [c0,c1,c2,c3]) (a:=t) rfl rfl (o1.ext x15) (Nat.le_trans s1 x15.size) rfl rfl a5 (R.ext ht3 x5) (by omega) (fun v6 w6 o6 c6 hb6=>?_)
  repeat (first|refine go1 ?_|refine zg (fun _ _=>?_)|refine zi (fun _ _=>?_))
  exact ⟨(i+1,v6,txs++ [t]),⟨rfl,rfl,rfl,rfl,rfl,trivial⟩,⟨(Ext.chg (x1.trans x15) c6).mono (fun y hy=>.inr (ob y hy)),by simp only;omega,o6,by simp [htl],fun y hy=>by
   rcases List.mem_append.1 hy with hy|hy
   ·exact hcut y hy
   ·simp at hy;subst hy;exact hc3⟩,by simp only;omega⟩
 ·have hT1:SlR txR [] w1 vo txs:=o1.sl (by simp)
  have hsm:∀t∈txs,t.Sm:=fun t ht=>cut_sm4 (hcut t ht)
  have hou:=outsB_cut hcut
  repeat (first|refine go1 ?_|refine zg (fun _ _=>?_)|refine zi (fun _ _=>?_))
  refine zC (d:=some 31) rfl (pnew_spec _) ?_
  rintro _ w2 ⟨b,mb,rfl,S2,hb1,hb2,x2⟩
  have hMb:∀y∈ [b,mb],w1.heap.size≤y:=fun y hy=>by simp at hy;rcases hy with rfl|rfl;exact hb1;exact hb2
  have hT2:SlR txR [b,mb] w2 vo txs:=hT1.step x2 (by simp) (fun y hy=>.inr (hMb y hy))
  have hM2:∀y∈ [b,mb],y<w2.heap.size:=fun y hy=>by simp at hy;rcases hy with rfl|rfl;exact S2.lt.1;exact S2.lt.2
  repeat (first|refine go1 ?_|refine zg (fun _ _=>?_)|refine zi (fun _ _=>?_))
  refine zC (d:=some 36) rfl (bapply_spec (M:= [b,mb]) (txs:=txs) (l:= []) height _ S2 CG.nil SC.nil (by simp) (by simp) hM2 hT2 hsm (by simp;omega) (by omega)) ?_
  rintro _ w8 ⟨sv,mv,e,rfl,E8,S8,hA,hB,c8⟩
  have hT8:SlR txR [b,mb] w8 vo txs:=hT2.step c8 (fun y hy=>.inl hy) (fun y hy=>.inl hy)
  have x08:Ext w w8:=(Ext.chg (x1.trans x2) c8).mono (fun y hy=>.inr (Nat.le_trans s1 (hMb y hy)))
  have nl:=applyL_len CG.nil txs height
  have k1:=applyL_ok (l:= []) (txs:=txs) (b:=height)
  have k2:=applyL_ok2 (l:= []) (txs:=txs) (b:=height)
  have o12:sv.oneCell'=true∧mv.oneCell'=true:=by
   by_cases h0:(applyL [] txs height).2.1=0
   ·obtain ⟨h1,h2, -⟩:=hA h0
    obtain ⟨_,_,q⟩:=h1.form
    obtain ⟨_,_,q2⟩:=h2.form
    rw [q,q2];exact ⟨rfl,rfl⟩
   ·obtain ⟨rfl,rfl⟩:=hB h0;exact ⟨rfl,rfl⟩
  have ones2:([sv,mv]:List Value).all (fun v=>v.oneCell')=true:=by simp [o12.1,o12.2]
  repeat (first|(refine zE (d':=9) (fun _=>rfl) rfl rfl ones2 (fun b11 w9 x9 a9 (r9:Row w9 ⟨b11,0,none⟩ [sv,mv]) hb11=>?_))|(first|refine go1 ?_|refine zg (fun _ _=>?_)|refine zi (fun _ _=>?_)))
  refine zC (d:=some 42) rfl (apply12_spec (M:= [b,mb]) (l:= []) (txs:=txs) height _ (SlE.nil _) CG.nil SC.nil (hT8.ext x9) hsm (by simp;omega) (by omega)) ?_
  rintro _ w10 ⟨vl,rfl,hvl,x10⟩
  have x810:Ext w8 w10:=x9.trans x10
  have E10:=E8.ext x810
  have S10:=S8.ext x810
  have x010:Ext w w10:=x08.trans x810
  have hg10:=hg.ext x010
  have hA':=hA
  clear E8 S8 hA hA' hB c8 x9 x10 x810 a9 r9 hT8 hT2 x08
  generalize applyL [] txs height=ap at*
  obtain ⟨n,c,at_,in_⟩:=ap
  simp only at E10 S10 hvl nl k1 k2
  repeat (first|refine go1 ?_|refine zg (fun _ _=>?_)|refine zi (fun _ _=>?_))
  refine zC (d:=some 47) rfl (wakes12_spec _ hg10) ?_
  rintro _ w11 ⟨rfl,x11⟩
  have E11:=E10.ext x11
  have g11:=hg10.ext x11
  repeat (first|refine go1 ?_|refine zg (fun _ _=>?_)|refine zi (fun _ _=>?_))
  refine zC (d:=some 50) rfl (code_spec g11 (E11.errR k1)) ?_
  rintro _ w12 ⟨rfl,x12⟩
  repeat (first|(refine st_fixV (d:=some 52) (.bool true) rfl (congrArg (fun b=>some (Value.bool b)) (decide_eq_true rfl)) ?_)|(first|refine go1 ?_|refine zg (fun _ _=>?_)|refine zi (fun _ _=>?_)))
  refine zC (d:=some 56) rfl (place_spec (g11.ext x12) ((E11.errR k1).ext x12)) ?_
  rintro _ w13 ⟨rfl,x13⟩
  repeat (first|(refine st_fixV (d:=some 58) (.bool true) rfl (congrArg (fun b=>some (Value.bool b)) (decide_eq_true rfl)) ?_)|(first|refine go1 ?_|refine zg (fun _ _=>?_)|refine zi (fun _ _=>?_)))
  refine zC (d:=some 62) rfl (inner12_spec ((g11.ext x12).ext x13) ((E11.ext x12).ext x13) k2) ?_
  rintro _ w14 ⟨rfl,x14⟩
  have x1014:Ext w10 w14:=(x11.trans x12).trans (x13.trans x14)
  repeat (first|(refine st_fixV (d:=some 64) (.bool true) rfl (congrArg (fun b=>some (Value.bool b)) (decide_eq_true rfl)) ?_)|(first|refine go1 ?_|refine zg (fun _ _=>?_)|refine zi (fun _ _=>?_)))
  refine zC (d:=some 69) rfl (same12_spec _ (S10.ext x1014) (hvl.ext x1014) (by simp at nl;omega)) ?_
  rintro _ w15 ⟨rfl,x15⟩
  repeat (first|refine go1 ?_|refine zg (fun _ _=>?_)|refine zi (fun _ _=>?_))
  exact x_ret rfl ⟨rfl,(x010.trans x1014).trans x15⟩
end Go.Proofs.YtbidkcjendncaaaGreatDoor
end
