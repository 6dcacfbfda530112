/- Contracts: the program writes a transaction's bytes. -/
import Derived.Test.YtgloknkcfchnlaaGreatZ11
import Derived.Test.YtgloknkcfchnlaaGreatZ12
set_option linter.unusedVariables false
set_option linter.unusedSimpArgs false
namespace Go.Proofs.YtgloknkcfchnlaaGreat
section
open Go Go.K
attribute [local irreducible] aF aP bG KOp.wp K.Spec leS vnS str aR eM
theorem bC6 (x:TIn) (wv:Value) {M:List Nat} (w:World) (hw:SlR pP M w wv x.wit):K.Spec Tryz.prog F.wire_witnessed_1 [.agg (eJ x wv).toArray] w fun r w'=>r=.bool (decide ((x.wit.length:Int)>0))∧Ext w w':=by
 refine aIc rfl ?_
 unfold wE
 refine oy ?_
 repeat' (first|refine go1 ?_|refine zg λ_ _=>?_|refine zi λ_ _=>?_|(first|refine zD rfl rfl (fun bp wp xp ap rp hp0=>?_)|refine zE (fun _=>rfl) rfl rfl rfl (fun bq wq xq aq rq hq0=>?_))|refine zG rfl (by exact fx) ?_)
 exact aA rfl ⟨rfl,by exact fx⟩
theorem bPy:cK Tryz.prog F.wire_witnessed_1=true:=by kernel_rfl
theorem kL:cK Tryz.prog F.wire_encode_1=true:=by kernel_rfl
theorem bHq {M:List Nat} {cs:List Value} {t:Tx} (w:World) (ht:txR.rel M w cs t) (hs:t.Sm):K.Spec Tryz.prog F.wire_witnessed [.agg cs.toArray] w fun r w'=>r=.bool (aOj t)∧Ext w w':=by
 obtain ⟨iv,ov,rfl,hi,ho,hv,hl⟩:=ht
 have h1:=hs.ins
 refine aLv rfl ?_
 unfold aAf
 refine oy ?_
 have tl:∀w1,Ext w w1→sL F.wire_witnessed_1 [] inR (fun cs=>.agg cs.toArray) M w1 t.ins fun x=>decide ((x.wit.length:Int)>0):=by
  intro w1 x1 x _ w' cs x2 hc
  obtain ⟨wv,rfl,hw,_⟩:=hc
  exact bC6 x wv w' hw
 repeat' (first|refine go1 ?_|refine zg λ_ _=>?_|refine zi λ_ _=>?_|(first|refine zD rfl rfl (fun bp wp xp ap rp hp0=>?_)|refine zE (fun _=>rfl) rfl rfl rfl (fun bq wq xq aq rq hq0=>?_))|(refine zC rfl (rH (l:=t.ins) (M:=M) (g:=F.wire_witnessed_1) (capl:= []) _ bPy (by exact fx) (by omega) (tl _ (by exact fx))) ?_;rintro _ w2 ⟨rfl,x2⟩))
 exact aA rfl ⟨rfl,by exact fx⟩
theorem fU {B b:Nat} {a:ByteArray} (n:Int) (k:Nat) (hk:k=1∨k=2∨k=4∨k=8) (w:World) (h:wJ B b a w) (hl:a.size≤90000000):K.Spec Tryz.prog F.wire_encode_1 [.int .u64 (IntKind.u64.wrap n),.int .i64 (k:Nat),.pointer (some ⟨b,0,none⟩)] w fun _ w'=>wJ B b (a++leS (aA1 n) k) w'∧WrT B b w w'∧(a++leS (aA1 n) k).size≤a.size+1000000:=by
 rw [aT1]
 refine aOh rfl ?_
 unfold aCy
 refine oy ?_
 have hkk:k≤8:=by omega
 repeat' (first|refine go1 ?_|refine zg λ_ _=>?_|refine zi λ_ _=>?_|(refine zC rfl (aDm _ k hk (bF8 n) _) ?_;rintro _ w1 ⟨rfl,x1⟩)|(refine zC rfl (aWc _ _ (h.ext x1) (by rw [cQ];omega)) ?_;rintro _ w2 ⟨h2,r2⟩))
 exact bSh rfl ⟨h2,(Wr.of_ext x1 h.1).trans r2,by rw [ByteArray.size_append,cQ];omega⟩
theorem eZ {f:FuncId} {al:List Value} {w:World} {R R':Value→World→Prop} (h:K.Spec Tryz.prog f al w R) (k:∀v w',R v w'→R' v w'):K.Spec Tryz.prog f al w R':=
 by unfold K.Spec at h ⊢;exact h.mono fun e w' ⟨v,he,hr⟩=>⟨v,he,k v w' hr⟩
theorem gG {B b:Nat} {a:ByteArray} (s:ByteArray) (w:World) (h:wJ B b a w) (hl:a.size≤90000000) (hs:s.size≤1000000):K.Spec Tryz.prog F.strings_Builder_WriteString [.pointer (some ⟨b,0,none⟩),.string s] w fun _ w'=>wJ B b (a++s) w'∧WrT B b w w'∧(a++s).size≤a.size+1000000:=
 eZ (aWc s w h (by omega)) fun v w' ⟨h1,h2⟩=>⟨h1,h2,by rw [ByteArray.size_append];omega⟩
theorem aM3 (n:Nat):(vnS n).size≤1000000:=by have:=fH n;omega
theorem aJv {s:ByteArray} (h:s.size≤100):(vnS s.size++s).size≤1000000:=by have:=fH s.size;rw [ByteArray.size_append];omega
section
variable {P:Program} {d:Option Tmp} {r:KR} {K:Env→World→Prop} {ρ:Env} {w w0:World} {α:Type} {E:R α} {M:List Nat} {v:Value} {l:List α}
theorem aFt {size:Nat} {x i:Operand} {kd:IntKind} {n:Nat} (x0:Ext w0 w) (hx:ev ρ x=v) (hi:ev ρ i=.int kd (n:Nat)) (hs:SlR E M w0 v l) (hk:size=E.k) (hr:n<l.length)
  (k:∀ad cs,Row w ad cs→E.rel M w0 cs l[n]→aF P r K (put ρ d (.pointer (some ad))) w):aF P (.cons ⟨d,.indexAddr size x i,none⟩ r) K ρ w:=by
 obtain ⟨css,h1,h2,_⟩:=hs
 have hr':n<css.length:=by rw [h2.length];exact hr
 exact aS (E:=kA E.k E.pos) hx hi (SlE.ext x0 h1) hk hr' fun ad hrow=>k ad _ hrow (h2.get n hr' hr)
end
theorem aMj (a:ByteArray):a++⟨#[]⟩=a:=ByteArray.append_empty
theorem bGi (a:ByteArray):⟨#[]⟩++a=a:=ByteArray.empty_append
theorem yM {B b:Nat} {a a':ByteArray} {w:World} (e:a=a') (h:wJ B b a w):wJ B b a' w:=e▸h
theorem bKk {α:Type} (a:ByteArray) (f:α→ByteArray) (l:List α):a=a++eM f (l.take 0):=by rw [List.take_zero,wG,aMj]
theorem e1F (t:Tx):(⟨#[]⟩++leS (aA1 t.ver) 4)++vnS t.ins.length=enc1 false t++eM sW (t.ins.take 0):=by
 rw [List.take_zero,wG,aMj,enc1,aJ5,if_neg (by decide),aMj,bGi]
theorem e1T (t:Tx):(((⟨#[]⟩++leS (aA1 t.ver) 4)++leS (aA1 0) 1)++leS (aA1 1) 1)++vnS t.ins.length=enc1 true t++eM sW (t.ins.take 0):=by
 rw [List.take_zero,wG,aMj,enc1,aJ5,if_pos rfl,bGi,←ByteArray.append_assoc];rfl
theorem bOy (wb:Bool) (t:Tx) (i:Nat) (h:t.ins.length≤i):(enc1 wb t++eM sW (t.ins.take i))++vnS t.outs.length=enc2 wb t++eM qM (t.outs.take 0):=by
 rw [tLe h,List.take_zero,wG,aMj];rfl
theorem bS6 (wb:Bool) (t:Tx) (i:Nat) (h:t.outs.length≤i):enc2 wb t++eM qM (t.outs.take i)=enc3 wb t++eM lA (t.ins.take 0):=by
 rw [tLe h,List.take_zero,wG,aMj];rfl
set_option maxHeartbeats 4000000 in
theorem aMn {M:List Nat} {cs:List Value} {t:Tx} (wb:Bool) (w:World) (ht:txR.rel M w cs t) (hs:t.Sz):K.Spec Tryz.prog F.wire_encode [.agg cs.toArray,.bool wb] w fun r w'=>r=.string (bS wb t)∧Ext w w':=by
 obtain ⟨iv,ov,rfl,hi,ho,hv,hl⟩:=ht
 have g1:=hs.ins
 have g2:=hs.outs
 have u1:=fun wb=>Tx.Sz.e1 (t:=t) wb
 have u2:=hs.e2
 have u3:=hs.e3
 have u4:=hs.e4
 have uI:∀wb i,(enc1 wb t++eM sW (t.ins.take i)).size≤60000:=fun wb i=>by have:=u1 wb;have:=hs.inC i;rw [ByteArray.size_append];omega
 have uO:∀wb i,(enc2 wb t++eM qM (t.outs.take i)).size≤150000:=fun wb i=>by have:=u2 wb;have:=hs.outC i;rw [ByteArray.size_append];omega
 have uW:∀wb i,(enc3 wb t++eM lA (t.ins.take i)).size≤3300000:=fun wb i=>by have:=u3 wb;have:=hs.witC i;rw [ByteArray.size_append];omega
 have uK:∀wb a (h:a<t.ins.length) k,(enc3 wb t++eM lA (t.ins.take a)++vnS t.ins[a].wit.length++eM uC (t.ins[a].wit.take k)).size≤3500000:=fun wb a h k=>by
  have:=u3 wb;have:=hs.witC a;have:=hs.itemC (gMe h) k;have:=fH t.ins[a].wit.length
  rw [ByteArray.size_append,ByteArray.size_append,ByteArray.size_append];omega
 refine aS5 rfl ?_
 unfold aGm
 refine oy ?_
 repeat' (first|refine go1 ?_|refine zg λ_ _=>?_|refine zi λ_ _=>?_|(refine zE (fun _=>rfl) rfl rfl rfl (fun bc wc xc ac rc hc0=>?_);have hne:bc≠b:=(by have:=hW.lt;omega))|(first|refine zD rfl rfl (fun bp wp xp ap rp hp0=>?_)|refine zE (fun _=>rfl) rfl rfl rfl (fun bq wq xq aq rq hq0=>?_))|refine zG rfl (by exact fx) ?_|refine zL rfl (fun h=>?_) (fun h=>?_)|(refine zM rfl (fun h=>?_) (fun h=>?_)<;>subst h)|(refine zH (fun b w0 x0 a0 hb0=>?_);have hW:wJ b b ⟨#[]⟩ w0:=(Bld.new (Nat.le_refl _) a0);have hS:(⟨#[]⟩:ByteArray).size≤0:=(Nat.le_refl _))|(refine aI (fun (i:Nat) w'=>Ext wp w'∧i≤t.ins.length∧wJ b b (enc1 true t++eM sW (t.ins.take i)) w') (fun i=> [(1,.bool true),(2,.pointer (some ⟨bp,0,none⟩)),(5,.pointer (some ⟨b,0,none⟩)),(6,.func (.func F.wire_encode_1) #[] #[.pointer (some ⟨b,0,none⟩)]),(32,iv),(33,.int .i64 (t.ins.length:Nat)),(34,.int .i64 i)]) (fun i=>t.ins.length - i) 0 ⟨rfl,rfl,rfl,rfl,rfl,rfl,rfl,trivial⟩ ⟨by exact fx,by omega,yM (e1T t) (by exact fx)⟩ ?_;rintro i ρ w3 ⟨xW,hi1,hW⟩;have hS:=uI true i)|(refine aI (fun (j:Nat) w'=>Ext wp w'∧j≤t.outs.length∧wJ b b (enc2 true t++eM qM (t.outs.take j)) w') (fun j=> [(1,.bool true),(2,.pointer (some ⟨bp,0,none⟩)),(5,.pointer (some ⟨b,0,none⟩)),(6,.func (.func F.wire_encode_1) #[] #[.pointer (some ⟨b,0,none⟩)]),(62,ov),(63,.int .i64 (t.outs.length:Nat)),(64,.int .i64 j)]) (fun j=>t.outs.length - j) 0 ⟨rfl,rfl,rfl,rfl,rfl,rfl,rfl,trivial⟩ ⟨by exact fx,by omega,yM (bOy true t i (by omega)) (by exact fx)⟩ ?_;rintro j ρ3 w4 ⟨xW,hj1,hW⟩;have hS:=uO true j)|(refine aI (fun (i:Nat) w'=>Ext wp w'∧i≤t.ins.length∧wJ b b (enc1 false t++eM sW (t.ins.take i)) w') (fun i=> [(1,.bool false),(2,.pointer (some ⟨bp,0,none⟩)),(5,.pointer (some ⟨b,0,none⟩)),(6,.func (.func F.wire_encode_1) #[] #[.pointer (some ⟨b,0,none⟩)]),(32,iv),(33,.int .i64 (t.ins.length:Nat)),(34,.int .i64 i)]) (fun i=>t.ins.length - i) 0 ⟨rfl,rfl,rfl,rfl,rfl,rfl,rfl,trivial⟩ ⟨by exact fx,by omega,yM (e1F t) (by exact fx)⟩ ?_;rintro i ρ w3 ⟨xW,hi1,hW⟩;have hS:=uI false i)|(refine aI (fun (j:Nat) w'=>Ext wp w'∧j≤t.outs.length∧wJ b b (enc2 false t++eM qM (t.outs.take j)) w') (fun j=> [(1,.bool false),(2,.pointer (some ⟨bp,0,none⟩)),(5,.pointer (some ⟨b,0,none⟩)),(6,.func (.func F.wire_encode_1) #[] #[.pointer (some ⟨b,0,none⟩)]),(62,ov),(63,.int .i64 (t.outs.length:Nat)),(64,.int .i64 j)]) (fun j=>t.outs.length - j) 0 ⟨rfl,rfl,rfl,rfl,rfl,rfl,rfl,trivial⟩ ⟨by exact fx,by omega,yM (bOy false t i (by omega)) (by exact fx)⟩ ?_;rintro j ρ3 w4 ⟨xW,hj1,hW⟩;have hS:=uO false j)|(refine aI (fun (a:Nat) w'=>Ext wp w'∧a≤t.ins.length∧wJ b b (enc3 true t++eM lA (t.ins.take a)) w') (fun a=> [(1,.bool true),(2,.pointer (some ⟨bp,0,none⟩)),(5,.pointer (some ⟨b,0,none⟩)),(6,.func (.func F.wire_encode_1) #[] #[.pointer (some ⟨b,0,none⟩)]),(80,iv),(81,.int .i64 (t.ins.length:Nat)),(82,.int .i64 a)]) (fun a=>t.ins.length - a) 0 ⟨rfl,rfl,rfl,rfl,rfl,rfl,rfl,trivial⟩ ⟨by exact fx,by omega,yM (bS6 true t j (by omega)) (by exact fx)⟩ ?_;rintro a ρ4 w5 ⟨xW,ha1,hW⟩;have hS:=uW true a)|(refine aI (fun (k:Nat) w'=>Ext wp w'∧k≤t.ins[a].wit.length∧wJ b b (enc3 true t++eM lA (t.ins.take a)++vnS t.ins[a].wit.length++eM uC (t.ins[a].wit.take k)) w') (fun k=> [(1,.bool true),(2,.pointer (some ⟨bp,0,none⟩)),(5,.pointer (some ⟨b,0,none⟩)),(6,.func (.func F.wire_encode_1) #[] #[.pointer (some ⟨b,0,none⟩)]),(80,iv),(81,.int .i64 (t.ins.length:Nat)),(82,.int .i64 a),(92,.slice wb t.ins[a].wit.length wcap),(93,.int .i64 (t.ins[a].wit.length:Nat)),(94,.int .i64 k)]) (fun k=>t.ins[a].wit.length - k) 0 ⟨rfl,rfl,rfl,rfl,rfl,rfl,rfl,rfl,rfl,rfl,trivial⟩ ⟨by exact fx,by omega,yM (bKk _ _ _) (by exact fx)⟩ ?_;rintro k ρ5 w6 ⟨xW,hk1,hW⟩;have hS:=uK true a hal k)|(refine aFt (w0:=wp) (by exact fx) rfl rfl (n:=i) (l:=t.ins) (by exact fx) rfl (by omega) (fun ad cs r2 he=>?_);obtain ⟨wv,rfl,hw,_⟩:=he;obtain ⟨_,_,rfl⟩:=hw.form;have hil:i<t.ins.length:=(by omega);have hid:=hs.ids _ (gMe hil))|(refine aFt (w0:=wp) (by exact fx) rfl rfl (n:=j) (l:=t.outs) (by exact fx) rfl (by omega) (fun ad cs r2 he=>?_);obtain ⟨rfl,_⟩:=he;have hjl:j<t.outs.length:=(by omega);have hsc:=hs.scr _ (gMe hjl))|(refine aFt (w0:=wp) (by exact fx) rfl rfl (n:=a) (l:=t.ins) (by exact fx) rfl (by omega) (fun ad cs r2 he=>?_);obtain ⟨wv,rfl,hw,_⟩:=he;obtain ⟨wb,wcap,rfl⟩:=hw.form;have hal:a<t.ins.length:=(by omega);have hwl:=hs.wit _ (gMe hal))|(refine aFt (w0:=wp) (by exact fx) rfl rfl (n:=k) (l:=t.ins[a].wit) hw rfl (by omega) (fun ad cs r4 he=>?_);have hq:cs= [Value.string t.ins[a].wit[k]]:=he;rw [hq] at r4;have hkl:k<t.ins[a].wit.length:=(by omega);have hit:=hs.item _ (gMe hal) _ (gMe hkl))|(refine zC rfl (qA 0 (by omega) _) ?_;rintro _ w2 ⟨rfl,x2⟩)|(refine zC rfl (qA t.ins.length (by omega) _) ?_;rintro _ w2 ⟨rfl,x2⟩)|(refine zC rfl (qA t.outs.length (by omega) _) ?_;rintro _ w2 ⟨rfl,x2⟩)|(refine zC rfl (qA t.ins[a].wit.length (by omega) _) ?_;rintro _ w2 ⟨rfl,x2⟩)|(refine zC rfl (aO9 t.outs[j].s (by omega) _) ?_;rintro _ w2 ⟨rfl,x2⟩)|(refine zC rfl (aO9 t.ins[a].wit[k] (by omega) _) ?_;rintro _ w2 ⟨rfl,x2⟩)|(refine zC rfl (gG t.ins[i].p.s _ (by exact fx) (by omega) (by omega)) ?_;rintro _ w1 ⟨hW,rW,hS⟩;have xW:=rW.ext (w0:=wp) (by exact fx) hb0;have ac:=At.wr rW (by focus (repeat (first|assumption|(apply At.ext;assumption)))) hne (by decide);have rc:=Row.of_at ac)|(refine zC rfl (gG (vnS 0) _ (by exact fx) (by omega) (aM3 _)) ?_;rintro _ w1 ⟨hW,rW,hS⟩;have xW:=rW.ext (w0:=wp) (by exact fx) hb0;have ac:=At.wr rW (by focus (repeat (first|assumption|(apply At.ext;assumption)))) hne (by decide);have rc:=Row.of_at ac)|(refine zC rfl (gG (vnS t.ins.length) _ (by exact fx) (by omega) (aM3 _)) ?_;rintro _ w1 ⟨hW,rW,hS⟩;have xW:=rW.ext (w0:=wp) (by exact fx) hb0;have ac:=At.wr rW (by focus (repeat (first|assumption|(apply At.ext;assumption)))) hne (by decide);have rc:=Row.of_at ac)|(refine zC rfl (gG (vnS t.outs.length) _ (by exact fx) (by omega) (aM3 _)) ?_;rintro _ w1 ⟨hW,rW,hS⟩;have xW:=rW.ext (w0:=wp) (by exact fx) hb0;have ac:=At.wr rW (by focus (repeat (first|assumption|(apply At.ext;assumption)))) hne (by decide);have rc:=Row.of_at ac)|(refine zC rfl (gG (vnS t.ins[a].wit.length) _ (by exact fx) (by omega) (aM3 _)) ?_;rintro _ w1 ⟨hW,rW,hS⟩;have xW:=rW.ext (w0:=wp) (by exact fx) hb0;have ac:=At.wr rW (by focus (repeat (first|assumption|(apply At.ext;assumption)))) hne (by decide);have rc:=Row.of_at ac)|(refine zC rfl (gG (vnS t.outs[j].s.size++t.outs[j].s) _ (by exact fx) (by omega) (aJv (by assumption))) ?_;rintro _ w1 ⟨hW,rW,hS⟩;have xW:=rW.ext (w0:=wp) (by exact fx) hb0;have ac:=At.wr rW (by focus (repeat (first|assumption|(apply At.ext;assumption)))) hne (by decide);have rc:=Row.of_at ac)|(refine zC rfl (gG (vnS t.ins[a].wit[k].size++t.ins[a].wit[k]) _ (by exact fx) (by omega) (aJv (by assumption))) ?_;rintro _ w1 ⟨hW,rW,hS⟩;have xW:=rW.ext (w0:=wp) (by exact fx) hb0;have ac:=At.wr rW (by focus (repeat (first|assumption|(apply At.ext;assumption)))) hne (by decide);have rc:=Row.of_at ac)|(refine fI rfl kL rfl (fU t.ver 4 (by decide) _ (by exact fx) (by omega)) ?_;rintro _ w1 ⟨hW,rW,hS⟩;have xW:=rW.ext (w0:=wp) (by exact fx) hb0;have ac:=At.wr rW (by focus (repeat (first|assumption|(apply At.ext;assumption)))) hne (by decide);have rc:=Row.of_at ac)|(refine fI rfl kL rfl (fU 0 1 (by decide) _ (by exact fx) (by omega)) ?_;rintro _ w1 ⟨hW,rW,hS⟩;have xW:=rW.ext (w0:=wp) (by exact fx) hb0;have ac:=At.wr rW (by focus (repeat (first|assumption|(apply At.ext;assumption)))) hne (by decide);have rc:=Row.of_at ac)|(refine fI rfl kL rfl (fU 1 1 (by decide) _ (by exact fx) (by omega)) ?_;rintro _ w1 ⟨hW,rW,hS⟩;have xW:=rW.ext (w0:=wp) (by exact fx) hb0;have ac:=At.wr rW (by focus (repeat (first|assumption|(apply At.ext;assumption)))) hne (by decide);have rc:=Row.of_at ac)|(refine fI rfl kL rfl (fU t.ins[i].p.i 4 (by decide) _ (by exact fx) (by omega)) ?_;rintro _ w1 ⟨hW,rW,hS⟩;have xW:=rW.ext (w0:=wp) (by exact fx) hb0;have ac:=At.wr rW (by focus (repeat (first|assumption|(apply At.ext;assumption)))) hne (by decide);have rc:=Row.of_at ac)|(refine fI rfl kL rfl (fU t.ins[i].q 4 (by decide) _ (by exact fx) (by omega)) ?_;rintro _ w1 ⟨hW,rW,hS⟩;have xW:=rW.ext (w0:=wp) (by exact fx) hb0;have ac:=At.wr rW (by focus (repeat (first|assumption|(apply At.ext;assumption)))) hne (by decide);have rc:=Row.of_at ac)|(refine fI rfl kL rfl (fU t.outs[j].v 8 (by decide) _ (by exact fx) (by omega)) ?_;rintro _ w1 ⟨hW,rW,hS⟩;have xW:=rW.ext (w0:=wp) (by exact fx) hb0;have ac:=At.wr rW (by focus (repeat (first|assumption|(apply At.ext;assumption)))) hne (by decide);have rc:=Row.of_at ac)|(refine fI rfl kL rfl (fU t.lock 4 (by decide) _ (by exact fx) (by omega)) ?_;rintro _ w1 ⟨hW,rW,hS⟩;have xW:=rW.ext (w0:=wp) (by exact fx) hb0;have ac:=At.wr rW (by focus (repeat (first|assumption|(apply At.ext;assumption)))) hne (by decide);have rc:=Row.of_at ac)|(refine zC rfl (gG t.ins[i].p.s _ (by exact fx) (by omega) (by omega)) ?_;rintro _ w1 ⟨hW,rW,hS⟩;have xW:=rW.ext (w0:=wp) (by exact fx) hb0)|(refine zC rfl (gG (vnS 0) _ (by exact fx) (by omega) (aM3 _)) ?_;rintro _ w1 ⟨hW,rW,hS⟩;have xW:=rW.ext (w0:=wp) (by exact fx) hb0)|(refine zC rfl (gG (vnS t.ins.length) _ (by exact fx) (by omega) (aM3 _)) ?_;rintro _ w1 ⟨hW,rW,hS⟩;have xW:=rW.ext (w0:=wp) (by exact fx) hb0)|(refine zC rfl (gG (vnS t.outs.length) _ (by exact fx) (by omega) (aM3 _)) ?_;rintro _ w1 ⟨hW,rW,hS⟩;have xW:=rW.ext (w0:=wp) (by exact fx) hb0)|(refine zC rfl (gG (vnS t.ins[a].wit.length) _ (by exact fx) (by omega) (aM3 _)) ?_;rintro _ w1 ⟨hW,rW,hS⟩;have xW:=rW.ext (w0:=wp) (by exact fx) hb0)|(refine zC rfl (gG (vnS t.outs[j].s.size++t.outs[j].s) _ (by exact fx) (by omega) (aJv (by assumption))) ?_;rintro _ w1 ⟨hW,rW,hS⟩;have xW:=rW.ext (w0:=wp) (by exact fx) hb0)|(refine zC rfl (gG (vnS t.ins[a].wit[k].size++t.ins[a].wit[k]) _ (by exact fx) (by omega) (aJv (by assumption))) ?_;rintro _ w1 ⟨hW,rW,hS⟩;have xW:=rW.ext (w0:=wp) (by exact fx) hb0)|(refine fI rfl kL rfl (fU t.ver 4 (by decide) _ (by exact fx) (by omega)) ?_;rintro _ w1 ⟨hW,rW,hS⟩;have xW:=rW.ext (w0:=wp) (by exact fx) hb0)|(refine fI rfl kL rfl (fU 0 1 (by decide) _ (by exact fx) (by omega)) ?_;rintro _ w1 ⟨hW,rW,hS⟩;have xW:=rW.ext (w0:=wp) (by exact fx) hb0)|(refine fI rfl kL rfl (fU 1 1 (by decide) _ (by exact fx) (by omega)) ?_;rintro _ w1 ⟨hW,rW,hS⟩;have xW:=rW.ext (w0:=wp) (by exact fx) hb0)|(refine fI rfl kL rfl (fU t.ins[i].p.i 4 (by decide) _ (by exact fx) (by omega)) ?_;rintro _ w1 ⟨hW,rW,hS⟩;have xW:=rW.ext (w0:=wp) (by exact fx) hb0)|(refine fI rfl kL rfl (fU t.ins[i].q 4 (by decide) _ (by exact fx) (by omega)) ?_;rintro _ w1 ⟨hW,rW,hS⟩;have xW:=rW.ext (w0:=wp) (by exact fx) hb0)|(refine fI rfl kL rfl (fU t.outs[j].v 8 (by decide) _ (by exact fx) (by omega)) ?_;rintro _ w1 ⟨hW,rW,hS⟩;have xW:=rW.ext (w0:=wp) (by exact fx) hb0)|(refine fI rfl kL rfl (fU t.lock 4 (by decide) _ (by exact fx) (by omega)) ?_;rintro _ w1 ⟨hW,rW,hS⟩;have xW:=rW.ext (w0:=wp) (by exact fx) hb0)|(refine zC rfl (aMe _ (by exact fx)) ?_;rintro _ w9 ⟨rfl,hW,rW⟩;have xW:=rW.ext (w0:=wp) (by exact fx) hb0))
 all_goals first
  |exact ⟨i+1,⟨rfl,rfl,rfl,rfl,rfl,rfl,rfl,trivial⟩,⟨by exact fx,by omega,yM (by rw [iY _ hil,sW];simp only [ByteArray.append_assoc]) hW⟩,by omega⟩
  |exact ⟨j+1,⟨rfl,rfl,rfl,rfl,rfl,rfl,rfl,trivial⟩,⟨by exact fx,by omega,yM (by rw [iY _ hjl,qM];simp only [ByteArray.append_assoc]) hW⟩,by omega⟩
  |exact ⟨k+1,⟨rfl,rfl,rfl,rfl,rfl,rfl,rfl,rfl,rfl,rfl,trivial⟩,⟨by exact fx,by omega,yM (by rw [iY _ hkl,uC];simp only [ByteArray.append_assoc]) hW⟩,by omega⟩
  |exact ⟨a+1,⟨rfl,rfl,rfl,rfl,rfl,rfl,rfl,trivial⟩,⟨by exact fx,by omega,yM (by rw [iY _ hal,lA,tLe (l:=t.ins[a].wit) (i:=k) (by omega)];simp only [ByteArray.append_assoc]) hW⟩,by omega⟩
  |exact aA rfl ⟨congrArg Value.string (by rw [tLe (l:=t.ins) (i:=a) (by omega)];rfl),by exact fx⟩
  |exact aA rfl ⟨congrArg Value.string (by rw [tLe (l:=t.outs) (i:=j) (by omega),bS,enc4,if_neg (by decide),aMj];rfl),by exact fx⟩
  |trace_state
end
end Go.Proofs.YtgloknkcfchnlaaGreat
