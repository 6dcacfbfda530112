/- Contracts: the program writes a transaction's bytes. -/
import Derived.Test.YteceapipdhnhdaaGreatDoorNa14
import Derived.Test.YteceapipdhnhdaaGreatDoorNa15
set_option linter.unusedVariables false
set_option linter.unusedSimpArgs false
namespace Go.Proofs.YteceapipdhnhdaaGreatDoor
section
open Go Go.K
attribute [local irreducible] aH aM aY KOp.wp K.Spec leS vnS str aP dV
theorem bBt (x:TIn) (wv:Value) {M:List Nat} (w:World) (hw:SlR nM M w wv x.wit):K.Spec Tryz.prog F.wire_witnessed_1 [.agg (fS x wv).toArray] w fun r w'=>r=.bool (decide ((x.wit.length:Int)>0))∧Ext w w':=by
 refine aGp rfl ?_
 unfold tZ
 refine oy ?_
 repeat' (first|(first|refine go2 ?_|fail)|(first|refine zD rfl rfl (fun bp wp xp ap rp hp0=>?_)|refine zE (fun _=>rfl) rfl rfl rfl (fun bq wq xq aq rq hq0=>?_))|refine zG rfl (by exact fx) ?_)
 exact aA rfl ⟨rfl,by exact fx⟩
theorem bOk:bW Tryz.prog F.wire_witnessed_1=true:=by kernel_rfl
theorem jQ:bW Tryz.prog F.wire_encode_1=true:=by kernel_rfl
theorem bGd {M:List Nat} {cs:List Value} {t:Tx} (w:World) (ht:txR.rel M w cs t) (hs:t.Sm):K.Spec Tryz.prog F.wire_witnessed [.agg cs.toArray] w fun r w'=>r=.bool (aPs t)∧Ext w w':=by
 obtain ⟨iv,ov,rfl,hi,ho,hv,hl⟩:=ht
 have h1:=hs.ins
 refine aKg rfl ?_
 unfold xX
 refine oy ?_
 have tl:∀w1,Ext w w1→qQ F.wire_witnessed_1 [] inR (fun cs=>.agg cs.toArray) M w1 t.ins fun x=>decide ((x.wit.length:Int)>0):=by
  intro w1 x1 x _ w' cs x2 hc
  obtain ⟨wv,rfl,hw,_⟩:=hc
  exact bBt x wv w' hw
 repeat' (first|(first|refine go2 ?_|fail)|(first|refine zD rfl rfl (fun bp wp xp ap rp hp0=>?_)|refine zE (fun _=>rfl) rfl rfl rfl (fun bq wq xq aq rq hq0=>?_))|(refine zC rfl (pO (l:=t.ins) (M:=M) (g:=F.wire_witnessed_1) (capl:= []) _ bOk (by exact fx) (by omega) (tl _ (by exact fx))) ?_;rintro _ w2 ⟨rfl,x2⟩))
 exact aA rfl ⟨rfl,by exact fx⟩
theorem fC {B b:Nat} {a:ByteArray} (n:Int) (k:Nat) (hk:k=1∨k=2∨k=4∨k=8) (w:World) (h:uG B b a w) (hl:a.size≤90000000):K.Spec Tryz.prog F.wire_encode_1 [.int .u64 (IntKind.u64.wrap n),.int .i64 (k:Nat),.pointer (some ⟨b,0,none⟩)] w fun _ w'=>uG B b (a++leS (yK n) k) w'∧WrT B b w w'∧(a++leS (yK n) k).size≤a.size+1000000:=by
 rw [aR9]
 refine aMy rfl ?_
 unfold aBj
 refine oy ?_
 have hkk:k≤8:=by omega
 repeat' (first|(first|refine go2 ?_|fail)|(refine zC rfl (aB3 _ k hk (bEx n) _) ?_;rintro _ w1 ⟨rfl,x1⟩)|(refine zC rfl (aUp _ _ (h.ext x1) (by rw [cN];omega)) ?_;rintro _ w2 ⟨h2,r2⟩))
 exact bEr rfl ⟨h2,(Wr.of_ext x1 h.1).trans r2,by rw [ByteArray.size_append,cN];omega⟩
theorem dO {f:FuncId} {al:List Value} {w:World} {R R':Value→World→Prop} (h:K.Spec Tryz.prog f al w R) (k:∀v w',R v w'→R' v w'):K.Spec Tryz.prog f al w R':=
 by unfold K.Spec at h ⊢;exact h.mono fun e w' ⟨v,he,hr⟩=>⟨v,he,k v w' hr⟩
theorem fJ {B b:Nat} {a:ByteArray} (s:ByteArray) (w:World) (h:uG B b a w) (hl:a.size≤90000000) (hs:s.size≤1000000):K.Spec Tryz.prog F.strings_Builder_WriteString [.pointer (some ⟨b,0,none⟩),.string s] w fun _ w'=>uG B b (a++s) w'∧WrT B b w w'∧(a++s).size≤a.size+1000000:=
 dO (aUp s w h (by omega)) fun v w' ⟨h1,h2⟩=>⟨h1,h2,by rw [ByteArray.size_append];omega⟩
theorem aLn (n:Nat):(vnS n).size≤1000000:=by have:=eG n;omega
theorem aIf {s:ByteArray} (h:s.size≤100):(vnS s.size++s).size≤1000000:=by have:=eG s.size;rw [ByteArray.size_append];omega
section
variable {P:Program} {d:Option Tmp} {r:KR} {K:Env→World→Prop} {ρ:Env} {w w0:World} {α:Type} {E:R α} {M:List Nat} {v:Value} {l:List α}
theorem aEc {size:Nat} {x i:Operand} {kd:IntKind} {n:Nat} (x0:Ext w0 w) (hx:ev ρ x=v) (hi:ev ρ i=.int kd (n:Nat)) (hs:SlR E M w0 v l) (hk:size=E.k) (hr:n<l.length)
  (k:∀ad cs,Row w ad cs→E.rel M w0 cs l[n]→aH P r K (put ρ d (.pointer (some ad))) w):aH P (.cons ⟨d,.indexAddr size x i,none⟩ r) K ρ w:=by
 obtain ⟨css,h1,h2,_⟩:=hs
 have hr':n<css.length:=by rw [h2.length];exact hr
 exact aT (E:=jM E.k E.pos) hx hi (SlE.ext x0 h1) hk hr' fun ad hrow=>k ad _ hrow (h2.get n hr' hr)
end
theorem aK4 (a:ByteArray):a++⟨#[]⟩=a:=ByteArray.append_empty
theorem bFa (a:ByteArray):⟨#[]⟩++a=a:=ByteArray.empty_append
theorem wQ {B b:Nat} {a a':ByteArray} {w:World} (e:a=a') (h:uG B b a w):uG B b a' w:=e▸h
theorem bI2 {α:Type} (a:ByteArray) (f:α→ByteArray) (l:List α):a=a++dV f (l.take 0):=by rw [List.take_zero,uA,aK4]
theorem e1F (t:Tx):(⟨#[]⟩++leS (yK t.ver) 4)++vnS t.ins.length=enc1 false t++dV rC (t.ins.take 0):=by
 rw [List.take_zero,uA,aK4,enc1,aIl,if_neg (by decide),aK4,bFa]
theorem e1T (t:Tx):(((⟨#[]⟩++leS (yK t.ver) 4)++leS (yK 0) 1)++leS (yK 1) 1)++vnS t.ins.length=enc1 true t++dV rC (t.ins.take 0):=by
 rw [List.take_zero,uA,aK4,enc1,aIl,if_pos rfl,bFa,←ByteArray.append_assoc];rfl
theorem bNk (wb:Bool) (t:Tx) (i:Nat) (h:t.ins.length≤i):(enc1 wb t++dV rC (t.ins.take i))++vnS t.outs.length=enc2 wb t++dV nV (t.outs.take 0):=by
 rw [tLe h,List.take_zero,uA,aK4];rfl
theorem bRz (wb:Bool) (t:Tx) (i:Nat) (h:t.outs.length≤i):enc2 wb t++dV nV (t.outs.take i)=enc3 wb t++dV lP (t.ins.take 0):=by
 rw [tLe h,List.take_zero,uA,aK4];rfl
set_option maxHeartbeats 4000000 in
theorem aK8 {M:List Nat} {cs:List Value} {t:Tx} (wb:Bool) (w:World) (ht:txR.rel M w cs t) (hs:t.Sz):K.Spec Tryz.prog F.wire_encode [.agg cs.toArray,.bool wb] w fun r w'=>r=.string (bK wb t)∧Ext w w':=by
 obtain ⟨iv,ov,rfl,hi,ho,hv,hl⟩:=ht
 have g1:=hs.ins
 have g2:=hs.outs
 have u1:=fun wb=>Tx.Sz.e1 (t:=t) wb
 have u2:=hs.e2
 have u3:=hs.e3
 have u4:=hs.e4
 have uI:∀wb i,(enc1 wb t++dV rC (t.ins.take i)).size≤60000:=fun wb i=>by have:=u1 wb;have:=hs.inC i;rw [ByteArray.size_append];omega
 have uO:∀wb i,(enc2 wb t++dV nV (t.outs.take i)).size≤150000:=fun wb i=>by have:=u2 wb;have:=hs.outC i;rw [ByteArray.size_append];omega
 have uW:∀wb i,(enc3 wb t++dV lP (t.ins.take i)).size≤3300000:=fun wb i=>by have:=u3 wb;have:=hs.witC i;rw [ByteArray.size_append];omega
 have uK:∀wb a (h:a<t.ins.length) k,(enc3 wb t++dV lP (t.ins.take a)++vnS t.ins[a].wit.length++dV rY (t.ins[a].wit.take k)).size≤3500000:=fun wb a h k=>by
  have:=u3 wb;have:=hs.witC a;have:=hs.itemC (gMe h) k;have:=eG t.ins[a].wit.length
  rw [ByteArray.size_append,ByteArray.size_append,ByteArray.size_append];omega
 refine aQ6 rfl ?_
 unfold aE0
 refine oy ?_
 repeat' (first|(first|refine go2 ?_|fail)|(refine zE (fun _=>rfl) rfl rfl rfl (fun bc wc xc ac rc hc0=>?_);have hne:bc≠b:=(by have:=hW.lt;omega))|(first|refine zD rfl rfl (fun bp wp xp ap rp hp0=>?_)|refine zE (fun _=>rfl) rfl rfl rfl (fun bq wq xq aq rq hq0=>?_))|refine zG rfl (by exact fx) ?_|refine zL rfl (fun h=>?_) (fun h=>?_)|(refine zM rfl (fun h=>?_) (fun h=>?_)<;>subst h)|(refine zH (fun b w0 x0 a0 hb0=>?_);have hW:uG b b ⟨#[]⟩ w0:=(Bld.new (Nat.le_refl _) a0);have hS:(⟨#[]⟩:ByteArray).size≤0:=(Nat.le_refl _))|(refine aJ (fun (i:Nat) w'=>Ext wp w'∧i≤t.ins.length∧uG b b (enc1 true t++dV rC (t.ins.take i)) w') (fun i=> [(1,.bool true),(2,.pointer (some ⟨bp,0,none⟩)),(5,.pointer (some ⟨b,0,none⟩)),(6,.func (.func F.wire_encode_1) #[] #[.pointer (some ⟨b,0,none⟩)]),(32,iv),(33,.int .i64 (t.ins.length:Nat)),(34,.int .i64 i)]) (fun i=>t.ins.length - i) 0 ⟨rfl,rfl,rfl,rfl,rfl,rfl,rfl,trivial⟩ ⟨by exact fx,by omega,wQ (e1T t) (by exact fx)⟩ ?_;rintro i ρ w3 ⟨xW,hi1,hW⟩;have hS:=uI true i)|(refine aJ (fun (j:Nat) w'=>Ext wp w'∧j≤t.outs.length∧uG b b (enc2 true t++dV nV (t.outs.take j)) w') (fun j=> [(1,.bool true),(2,.pointer (some ⟨bp,0,none⟩)),(5,.pointer (some ⟨b,0,none⟩)),(6,.func (.func F.wire_encode_1) #[] #[.pointer (some ⟨b,0,none⟩)]),(62,ov),(63,.int .i64 (t.outs.length:Nat)),(64,.int .i64 j)]) (fun j=>t.outs.length - j) 0 ⟨rfl,rfl,rfl,rfl,rfl,rfl,rfl,trivial⟩ ⟨by exact fx,by omega,wQ (bNk true t i (by omega)) (by exact fx)⟩ ?_;rintro j ρ3 w4 ⟨xW,hj1,hW⟩;have hS:=uO true j)|(refine aJ (fun (i:Nat) w'=>Ext wp w'∧i≤t.ins.length∧uG b b (enc1 false t++dV rC (t.ins.take i)) w') (fun i=> [(1,.bool false),(2,.pointer (some ⟨bp,0,none⟩)),(5,.pointer (some ⟨b,0,none⟩)),(6,.func (.func F.wire_encode_1) #[] #[.pointer (some ⟨b,0,none⟩)]),(32,iv),(33,.int .i64 (t.ins.length:Nat)),(34,.int .i64 i)]) (fun i=>t.ins.length - i) 0 ⟨rfl,rfl,rfl,rfl,rfl,rfl,rfl,trivial⟩ ⟨by exact fx,by omega,wQ (e1F t) (by exact fx)⟩ ?_;rintro i ρ w3 ⟨xW,hi1,hW⟩;have hS:=uI false i)|(refine aJ (fun (j:Nat) w'=>Ext wp w'∧j≤t.outs.length∧uG b b (enc2 false t++dV nV (t.outs.take j)) w') (fun j=> [(1,.bool false),(2,.pointer (some ⟨bp,0,none⟩)),(5,.pointer (some ⟨b,0,none⟩)),(6,.func (.func F.wire_encode_1) #[] #[.pointer (some ⟨b,0,none⟩)]),(62,ov),(63,.int .i64 (t.outs.length:Nat)),(64,.int .i64 j)]) (fun j=>t.outs.length - j) 0 ⟨rfl,rfl,rfl,rfl,rfl,rfl,rfl,trivial⟩ ⟨by exact fx,by omega,wQ (bNk false t i (by omega)) (by exact fx)⟩ ?_;rintro j ρ3 w4 ⟨xW,hj1,hW⟩;have hS:=uO false j)|(refine aJ (fun (a:Nat) w'=>Ext wp w'∧a≤t.ins.length∧uG b b (enc3 true t++dV lP (t.ins.take a)) w') (fun a=> [(1,.bool true),(2,.pointer (some ⟨bp,0,none⟩)),(5,.pointer (some ⟨b,0,none⟩)),(6,.func (.func F.wire_encode_1) #[] #[.pointer (some ⟨b,0,none⟩)]),(80,iv),(81,.int .i64 (t.ins.length:Nat)),(82,.int .i64 a)]) (fun a=>t.ins.length - a) 0 ⟨rfl,rfl,rfl,rfl,rfl,rfl,rfl,trivial⟩ ⟨by exact fx,by omega,wQ (bRz true t j (by omega)) (by exact fx)⟩ ?_;rintro a ρ4 w5 ⟨xW,ha1,hW⟩;have hS:=uW true a)|(refine aJ (fun (k:Nat) w'=>Ext wp w'∧k≤t.ins[a].wit.length∧uG b b (enc3 true t++dV lP (t.ins.take a)++vnS t.ins[a].wit.length++dV rY (t.ins[a].wit.take k)) w') (fun k=> [(1,.bool true),(2,.pointer (some ⟨bp,0,none⟩)),(5,.pointer (some ⟨b,0,none⟩)),(6,.func (.func F.wire_encode_1) #[] #[.pointer (some ⟨b,0,none⟩)]),(80,iv),(81,.int .i64 (t.ins.length:Nat)),(82,.int .i64 a),(92,.slice wb t.ins[a].wit.length wcap),(93,.int .i64 (t.ins[a].wit.length:Nat)),(94,.int .i64 k)]) (fun k=>t.ins[a].wit.length - k) 0 ⟨rfl,rfl,rfl,rfl,rfl,rfl,rfl,rfl,rfl,rfl,trivial⟩ ⟨by exact fx,by omega,wQ (bI2 _ _ _) (by exact fx)⟩ ?_;rintro k ρ5 w6 ⟨xW,hk1,hW⟩;have hS:=uK true a hal k)|(refine aEc (w0:=wp) (by exact fx) rfl rfl (n:=i) (l:=t.ins) (by exact fx) rfl (by omega) (fun ad cs r2 he=>?_);obtain ⟨wv,rfl,hw,_⟩:=he;obtain ⟨_,_,rfl⟩:=hw.form;have hil:i<t.ins.length:=(by omega);have hid:=hs.ids _ (gMe hil))|(refine aEc (w0:=wp) (by exact fx) rfl rfl (n:=j) (l:=t.outs) (by exact fx) rfl (by omega) (fun ad cs r2 he=>?_);obtain ⟨rfl,_⟩:=he;have hjl:j<t.outs.length:=(by omega);have hsc:=hs.scr _ (gMe hjl))|(refine aEc (w0:=wp) (by exact fx) rfl rfl (n:=a) (l:=t.ins) (by exact fx) rfl (by omega) (fun ad cs r2 he=>?_);obtain ⟨wv,rfl,hw,_⟩:=he;obtain ⟨wb,wcap,rfl⟩:=hw.form;have hal:a<t.ins.length:=(by omega);have hwl:=hs.wit _ (gMe hal))|(refine aEc (w0:=wp) (by exact fx) rfl rfl (n:=k) (l:=t.ins[a].wit) hw rfl (by omega) (fun ad cs r4 he=>?_);have hq:cs= [Value.string t.ins[a].wit[k]]:=he;rw [hq] at r4;have hkl:k<t.ins[a].wit.length:=(by omega);have hit:=hs.item _ (gMe hal) _ (gMe hkl))|(refine zC rfl (nJ 0 (by omega) _) ?_;rintro _ w2 ⟨rfl,x2⟩)|(refine zC rfl (nJ t.ins.length (by omega) _) ?_;rintro _ w2 ⟨rfl,x2⟩)|(refine zC rfl (nJ t.outs.length (by omega) _) ?_;rintro _ w2 ⟨rfl,x2⟩)|(refine zC rfl (nJ t.ins[a].wit.length (by omega) _) ?_;rintro _ w2 ⟨rfl,x2⟩)|(refine zC rfl (aNo t.outs[j].s (by omega) _) ?_;rintro _ w2 ⟨rfl,x2⟩)|(refine zC rfl (aNo t.ins[a].wit[k] (by omega) _) ?_;rintro _ w2 ⟨rfl,x2⟩)|(refine zC rfl (fJ t.ins[i].p.s _ (by exact fx) (by omega) (by omega)) ?_;rintro _ w1 ⟨hW,rW,hS⟩;have xW:=rW.ext (w0:=wp) (by exact fx) hb0;have ac:=At.wr rW (by exact atx) hne (by decide);have rc:=Row.of_at ac)|(refine zC rfl (fJ (vnS 0) _ (by exact fx) (by omega) (aLn _)) ?_;rintro _ w1 ⟨hW,rW,hS⟩;have xW:=rW.ext (w0:=wp) (by exact fx) hb0;have ac:=At.wr rW (by exact atx) hne (by decide);have rc:=Row.of_at ac)|(refine zC rfl (fJ (vnS t.ins.length) _ (by exact fx) (by omega) (aLn _)) ?_;rintro _ w1 ⟨hW,rW,hS⟩;have xW:=rW.ext (w0:=wp) (by exact fx) hb0;have ac:=At.wr rW (by exact atx) hne (by decide);have rc:=Row.of_at ac)|(refine zC rfl (fJ (vnS t.outs.length) _ (by exact fx) (by omega) (aLn _)) ?_;rintro _ w1 ⟨hW,rW,hS⟩;have xW:=rW.ext (w0:=wp) (by exact fx) hb0;have ac:=At.wr rW (by exact atx) hne (by decide);have rc:=Row.of_at ac)|(refine zC rfl (fJ (vnS t.ins[a].wit.length) _ (by exact fx) (by omega) (aLn _)) ?_;rintro _ w1 ⟨hW,rW,hS⟩;have xW:=rW.ext (w0:=wp) (by exact fx) hb0;have ac:=At.wr rW (by exact atx) hne (by decide);have rc:=Row.of_at ac)|(refine zC rfl (fJ (vnS t.outs[j].s.size++t.outs[j].s) _ (by exact fx) (by omega) (aIf (by assumption))) ?_;rintro _ w1 ⟨hW,rW,hS⟩;have xW:=rW.ext (w0:=wp) (by exact fx) hb0;have ac:=At.wr rW (by exact atx) hne (by decide);have rc:=Row.of_at ac)|(refine zC rfl (fJ (vnS t.ins[a].wit[k].size++t.ins[a].wit[k]) _ (by exact fx) (by omega) (aIf (by assumption))) ?_;rintro _ w1 ⟨hW,rW,hS⟩;have xW:=rW.ext (w0:=wp) (by exact fx) hb0;have ac:=At.wr rW (by exact atx) hne (by decide);have rc:=Row.of_at ac)|(refine dP rfl jQ rfl (fC t.ver 4 (by decide) _ (by exact fx) (by omega)) ?_;rintro _ w1 ⟨hW,rW,hS⟩;have xW:=rW.ext (w0:=wp) (by exact fx) hb0;have ac:=At.wr rW (by exact atx) hne (by decide);have rc:=Row.of_at ac)|(refine dP rfl jQ rfl (fC 0 1 (by decide) _ (by exact fx) (by omega)) ?_;rintro _ w1 ⟨hW,rW,hS⟩;have xW:=rW.ext (w0:=wp) (by exact fx) hb0;have ac:=At.wr rW (by exact atx) hne (by decide);have rc:=Row.of_at ac)|(refine dP rfl jQ rfl (fC 1 1 (by decide) _ (by exact fx) (by omega)) ?_;rintro _ w1 ⟨hW,rW,hS⟩;have xW:=rW.ext (w0:=wp) (by exact fx) hb0;have ac:=At.wr rW (by exact atx) hne (by decide);have rc:=Row.of_at ac)|(refine dP rfl jQ rfl (fC t.ins[i].p.i 4 (by decide) _ (by exact fx) (by omega)) ?_;rintro _ w1 ⟨hW,rW,hS⟩;have xW:=rW.ext (w0:=wp) (by exact fx) hb0;have ac:=At.wr rW (by exact atx) hne (by decide);have rc:=Row.of_at ac)|(refine dP rfl jQ rfl (fC t.ins[i].q 4 (by decide) _ (by exact fx) (by omega)) ?_;rintro _ w1 ⟨hW,rW,hS⟩;have xW:=rW.ext (w0:=wp) (by exact fx) hb0;have ac:=At.wr rW (by exact atx) hne (by decide);have rc:=Row.of_at ac)|(refine dP rfl jQ rfl (fC t.outs[j].v 8 (by decide) _ (by exact fx) (by omega)) ?_;rintro _ w1 ⟨hW,rW,hS⟩;have xW:=rW.ext (w0:=wp) (by exact fx) hb0;have ac:=At.wr rW (by exact atx) hne (by decide);have rc:=Row.of_at ac)|(refine dP rfl jQ rfl (fC t.lock 4 (by decide) _ (by exact fx) (by omega)) ?_;rintro _ w1 ⟨hW,rW,hS⟩;have xW:=rW.ext (w0:=wp) (by exact fx) hb0;have ac:=At.wr rW (by exact atx) hne (by decide);have rc:=Row.of_at ac)|(refine zC rfl (fJ t.ins[i].p.s _ (by exact fx) (by omega) (by omega)) ?_;rintro _ w1 ⟨hW,rW,hS⟩;have xW:=rW.ext (w0:=wp) (by exact fx) hb0)|(refine zC rfl (fJ (vnS 0) _ (by exact fx) (by omega) (aLn _)) ?_;rintro _ w1 ⟨hW,rW,hS⟩;have xW:=rW.ext (w0:=wp) (by exact fx) hb0)|(refine zC rfl (fJ (vnS t.ins.length) _ (by exact fx) (by omega) (aLn _)) ?_;rintro _ w1 ⟨hW,rW,hS⟩;have xW:=rW.ext (w0:=wp) (by exact fx) hb0)|(refine zC rfl (fJ (vnS t.outs.length) _ (by exact fx) (by omega) (aLn _)) ?_;rintro _ w1 ⟨hW,rW,hS⟩;have xW:=rW.ext (w0:=wp) (by exact fx) hb0)|(refine zC rfl (fJ (vnS t.ins[a].wit.length) _ (by exact fx) (by omega) (aLn _)) ?_;rintro _ w1 ⟨hW,rW,hS⟩;have xW:=rW.ext (w0:=wp) (by exact fx) hb0)|(refine zC rfl (fJ (vnS t.outs[j].s.size++t.outs[j].s) _ (by exact fx) (by omega) (aIf (by assumption))) ?_;rintro _ w1 ⟨hW,rW,hS⟩;have xW:=rW.ext (w0:=wp) (by exact fx) hb0)|(refine zC rfl (fJ (vnS t.ins[a].wit[k].size++t.ins[a].wit[k]) _ (by exact fx) (by omega) (aIf (by assumption))) ?_;rintro _ w1 ⟨hW,rW,hS⟩;have xW:=rW.ext (w0:=wp) (by exact fx) hb0)|(refine dP rfl jQ rfl (fC t.ver 4 (by decide) _ (by exact fx) (by omega)) ?_;rintro _ w1 ⟨hW,rW,hS⟩;have xW:=rW.ext (w0:=wp) (by exact fx) hb0)|(refine dP rfl jQ rfl (fC 0 1 (by decide) _ (by exact fx) (by omega)) ?_;rintro _ w1 ⟨hW,rW,hS⟩;have xW:=rW.ext (w0:=wp) (by exact fx) hb0)|(refine dP rfl jQ rfl (fC 1 1 (by decide) _ (by exact fx) (by omega)) ?_;rintro _ w1 ⟨hW,rW,hS⟩;have xW:=rW.ext (w0:=wp) (by exact fx) hb0)|(refine dP rfl jQ rfl (fC t.ins[i].p.i 4 (by decide) _ (by exact fx) (by omega)) ?_;rintro _ w1 ⟨hW,rW,hS⟩;have xW:=rW.ext (w0:=wp) (by exact fx) hb0)|(refine dP rfl jQ rfl (fC t.ins[i].q 4 (by decide) _ (by exact fx) (by omega)) ?_;rintro _ w1 ⟨hW,rW,hS⟩;have xW:=rW.ext (w0:=wp) (by exact fx) hb0)|(refine dP rfl jQ rfl (fC t.outs[j].v 8 (by decide) _ (by exact fx) (by omega)) ?_;rintro _ w1 ⟨hW,rW,hS⟩;have xW:=rW.ext (w0:=wp) (by exact fx) hb0)|(refine dP rfl jQ rfl (fC t.lock 4 (by decide) _ (by exact fx) (by omega)) ?_;rintro _ w1 ⟨hW,rW,hS⟩;have xW:=rW.ext (w0:=wp) (by exact fx) hb0)|(refine zC rfl (aKx _ (by exact fx)) ?_;rintro _ w9 ⟨rfl,hW,rW⟩;have xW:=rW.ext (w0:=wp) (by exact fx) hb0))
 all_goals first
  |exact ⟨i+1,⟨rfl,rfl,rfl,rfl,rfl,rfl,rfl,trivial⟩,⟨by exact fx,by omega,wQ (by rw [iB _ hil,rC];simp only [ByteArray.append_assoc]) hW⟩,by omega⟩
  |exact ⟨j+1,⟨rfl,rfl,rfl,rfl,rfl,rfl,rfl,trivial⟩,⟨by exact fx,by omega,wQ (by rw [iB _ hjl,nV];simp only [ByteArray.append_assoc]) hW⟩,by omega⟩
  |exact ⟨k+1,⟨rfl,rfl,rfl,rfl,rfl,rfl,rfl,rfl,rfl,rfl,trivial⟩,⟨by exact fx,by omega,wQ (by rw [iB _ hkl,rY];simp only [ByteArray.append_assoc]) hW⟩,by omega⟩
  |exact ⟨a+1,⟨rfl,rfl,rfl,rfl,rfl,rfl,rfl,trivial⟩,⟨by exact fx,by omega,wQ (by rw [iB _ hal,lP,tLe (l:=t.ins[a].wit) (i:=k) (by omega)];simp only [ByteArray.append_assoc]) hW⟩,by omega⟩
  |exact aA rfl ⟨congrArg Value.string (by rw [tLe (l:=t.ins) (i:=a) (by omega)];rfl),by exact fx⟩
  |exact aA rfl ⟨congrArg Value.string (by rw [tLe (l:=t.outs) (i:=j) (by omega),bK,enc4,if_neg (by decide),aK4];rfl),by exact fx⟩
  |trace_state
end
end Go.Proofs.YteceapipdhnhdaaGreatDoor
