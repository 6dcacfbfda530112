/- Contracts: the program writes a transaction's bytes. Contracts: a transaction's bytes, checked; by the reference. Contracts: a transaction's bytes by the reference. Plain: a digest's words (SHA-256). Plain: bytes written from the highest on; steps over rows of bytes. Contracts: a number's bytes, the highest first; padded texts. -/
import Derived.Test.YtbidkcjendncaaaGreatDoorDa13
set_option linter.unusedVariables false
set_option linter.unusedSimpArgs false
section
namespace Go.Proofs.YtbidkcjendncaaaGreatDoor
open Go Go.K
attribute [local irreducible] regK codeK retK KOp.wp K.Spec leS vnS str zero32 catB
theorem enc_hb1:hasBody Tryz.prog F.wire_encode_1=true:=by kernel_rfl
theorem putc_spec {B b:Nat} {a:ByteArray} (n:Int) (k:Nat) (hk:k=1∨k=2∨k=4∨k=8) (w:World) (h:BldT B b a w) (hl:a.size≤90000000):K.Spec Tryz.prog F.wire_encode_1 [.int .u64 (IntKind.u64.wrap n),.int .i64 (k:Nat),.pointer (some ⟨b,0,none⟩)] w fun _ w'=>BldT B b (a++leS (u64N n) k) w'∧WrT B b w w'∧(a++leS (u64N n) k).size≤a.size+1000000:=by
 rw [u64N_wrap]
 refine s_wire_encode_1 rfl ?_
 unfold k_wire_encode_1
 refine oy ?_
 have hkk:k≤8:=by omega
 repeat' (first|(first|refine go1 ?_|refine zg (fun _ _=>?_)|refine zi (fun _ _=>?_))|(refine zC rfl (put_spec _ k hk (u64N_lt n) _) ?_;rintro _ w1 ⟨rfl,x1⟩)|(refine zC rfl (wr_spec _ _ (h.ext x1) (by rw [leS_size];omega)) ?_;rintro _ w2 ⟨h2,r2⟩))
 exact x_end rfl ⟨h2,(Wr.of_ext x1 h.1).trans r2,by rw [ByteArray.size_append,leS_size];omega⟩
theorem spec_mono {f:FuncId} {al:List Value} {w:World} {R R':Value→World→Prop} (h:K.Spec Tryz.prog f al w R) (k:∀v w',R v w'→R' v w'):K.Spec Tryz.prog f al w R':=
 by unfold K.Spec at h ⊢;exact h.mono fun e w' ⟨v,he,hr⟩=>⟨v,he,k v w' hr⟩
theorem wrs_spec {B b:Nat} {a:ByteArray} (s:ByteArray) (w:World) (h:BldT B b a w) (hl:a.size≤90000000) (hs:s.size≤1000000):K.Spec Tryz.prog F.strings_Builder_WriteString [.pointer (some ⟨b,0,none⟩),.string s] w fun _ w'=>BldT B b (a++s) w'∧WrT B b w w'∧(a++s).size≤a.size+1000000:=
 spec_mono (wr_spec s w h (by omega)) fun v w' ⟨h1,h2⟩=>⟨h1,h2,by rw [ByteArray.size_append];omega⟩
theorem vn_le (n:Nat):(vnS n).size≤1000000:=by have:=vnS_size n;omega
theorem sized_le {s:ByteArray} (h:s.size≤100):(vnS s.size++s).size≤1000000:=by have:=vnS_size s.size;rw [ByteArray.size_append];omega
section
variable {P:Program} {d:Option Tmp} {r:KR} {K:Env→World→Prop} {ρ:Env} {w w0:World} {α:Type} {E:R α} {M:List Nat} {v:Value} {l:List α}
theorem st_elemR0 {size:Nat} {x i:Operand} {kd:IntKind} {n:Nat} (x0:Ext w0 w) (hx:ev ρ x=v) (hi:ev ρ i=.int kd (n:Nat)) (hs:SlR E M w0 v l) (hk:size=E.k) (hr:n<l.length)
  (k:∀ad cs,Row w ad cs→E.rel M w0 cs l[n]→regK P r K (put ρ d (.pointer (some ad))) w):regK P (.cons ⟨d,.indexAddr size x i,none⟩ r) K ρ w:=by
 obtain ⟨css,h1,h2,_⟩:=hs
 have hr':n<css.length:=by rw [h2.length];exact hr
 exact st_elemE (E:=vecE E.k E.pos) hx hi (SlE.ext x0 h1) hk hr' fun ad hrow=>k ad _ hrow (h2.get n hr' hr)
end
theorem app_e (a:ByteArray):a++⟨#[]⟩=a:=ByteArray.append_empty
theorem e_app (a:ByteArray):⟨#[]⟩++a=a:=ByteArray.empty_append
theorem bld_eq {B b:Nat} {a a':ByteArray} {w:World} (e:a=a') (h:BldT B b a w):BldT B b a' w:=e▸h
theorem app_t0 {α:Type} (a:ByteArray) (f:α→ByteArray) (l:List α):a=a++catB f (l.take 0):=by rw [List.take_zero,catB_nil,app_e]
theorem e1F (t:Tx):(⟨#[]⟩++leS (u64N t.ver) 4)++vnS t.ins.length=enc1 false t++catB encIn (t.ins.take 0):=by
 rw [List.take_zero,catB_nil,app_e,enc1,encHead,if_neg (by decide),app_e,e_app]
theorem e1T (t:Tx):(((⟨#[]⟩++leS (u64N t.ver) 4)++leS (u64N 0) 1)++leS (u64N 1) 1)++vnS t.ins.length=enc1 true t++catB encIn (t.ins.take 0):=by
 rw [List.take_zero,catB_nil,app_e,enc1,encHead,if_pos rfl,e_app,←ByteArray.append_assoc];rfl
theorem e2_0 (wb:Bool) (t:Tx) (i:Nat) (h:t.ins.length≤i):(enc1 wb t++catB encIn (t.ins.take i))++vnS t.outs.length=enc2 wb t++catB encOut (t.outs.take 0):=by
 rw [List.take_of_length_le h,List.take_zero,catB_nil,app_e];rfl
theorem e3_0 (wb:Bool) (t:Tx) (i:Nat) (h:t.outs.length≤i):enc2 wb t++catB encOut (t.outs.take i)=enc3 wb t++catB encWit (t.ins.take 0):=by
 rw [List.take_of_length_le h,List.take_zero,catB_nil,app_e];rfl
set_option maxHeartbeats 4000000 in
theorem encode_spec {M:List Nat} {cs:List Value} {t:Tx} (wb:Bool) (w:World) (ht:txR.rel M w cs t) (hs:t.Sz):K.Spec Tryz.prog F.wire_encode [.agg cs.toArray,.bool wb] w fun r w'=>r=.string (encT wb t)∧Ext w w':=by
 obtain ⟨iv,ov,rfl,hi,ho,hv,hl⟩:=ht
 have g1:=hs.ins
 have g2:=hs.outs
 have u1:=fun wb=>Tx.Sz.e1 (t:=t) wb
 have u2:=hs.e2
 have u3:=hs.e3
 have u4:=hs.e4
 have uI:∀wb i,(enc1 wb t++catB encIn (t.ins.take i)).size≤60000:=fun wb i=>by have:=u1 wb;have:=hs.inC i;rw [ByteArray.size_append];omega
 have uO:∀wb i,(enc2 wb t++catB encOut (t.outs.take i)).size≤150000:=fun wb i=>by have:=u2 wb;have:=hs.outC i;rw [ByteArray.size_append];omega
 have uW:∀wb i,(enc3 wb t++catB encWit (t.ins.take i)).size≤3300000:=fun wb i=>by have:=u3 wb;have:=hs.witC i;rw [ByteArray.size_append];omega
 have uK:∀wb a (h:a<t.ins.length) k,(enc3 wb t++catB encWit (t.ins.take a)++vnS t.ins[a].wit.length++catB encItem (t.ins[a].wit.take k)).size≤3500000:=fun wb a h k=>by
  have:=u3 wb;have:=hs.witC a;have:=hs.itemC (List.getElem_mem h) k;have:=vnS_size t.ins[a].wit.length
  rw [ByteArray.size_append,ByteArray.size_append,ByteArray.size_append];omega
 refine s_wire_encode rfl ?_
 unfold k_wire_encode
 refine oy ?_
 repeat' (first|(first|refine go1 ?_|refine zg (fun _ _=>?_)|refine zi (fun _ _=>?_))|(refine zE (fun _=>rfl) rfl rfl rfl (fun bc wc xc ac rc hc0=>?_);have hne:bc≠b:=(by have:=hW.lt;omega))|(first|refine zD rfl rfl (fun bp wp xp ap rp hp0=>?_)|refine zE (fun _=>rfl) rfl rfl rfl (fun bq wq xq aq rq hq0=>?_))|refine zG rfl (by exact fx) ?_|refine zL rfl (fun h=>?_) (fun h=>?_)|(refine zM rfl (fun h=>?_) (fun h=>?_)<;>subst h)|(refine zH (fun b w0 x0 a0 hb0=>?_);have hW:BldT b b ⟨#[]⟩ w0:=(Bld.new (Nat.le_refl _) a0);have hS:(⟨#[]⟩:ByteArray).size≤0:=(Nat.le_refl _))|(refine c_loopV (fun (i:Nat) w'=>Ext wp w'∧i≤t.ins.length∧BldT b b (enc1 true t++catB encIn (t.ins.take i)) w') (fun i=> [(1,.bool true),(2,.pointer (some ⟨bp,0,none⟩)),(5,.pointer (some ⟨b,0,none⟩)),(6,.func (.func F.wire_encode_1) #[] #[.pointer (some ⟨b,0,none⟩)]),(32,iv),(33,.int .i64 (t.ins.length:Nat)),(34,.int .i64 i)]) (fun i=>t.ins.length - i) 0 ⟨rfl,rfl,rfl,rfl,rfl,rfl,rfl,trivial⟩ ⟨by exact fx,by omega,bld_eq (e1T t) (by exact fx)⟩ ?_;rintro i ρ w3 ⟨xW,hi1,hW⟩;have hS:=uI true i)|(refine c_loopV (fun (j:Nat) w'=>Ext wp w'∧j≤t.outs.length∧BldT b b (enc2 true t++catB encOut (t.outs.take j)) w') (fun j=> [(1,.bool true),(2,.pointer (some ⟨bp,0,none⟩)),(5,.pointer (some ⟨b,0,none⟩)),(6,.func (.func F.wire_encode_1) #[] #[.pointer (some ⟨b,0,none⟩)]),(62,ov),(63,.int .i64 (t.outs.length:Nat)),(64,.int .i64 j)]) (fun j=>t.outs.length - j) 0 ⟨rfl,rfl,rfl,rfl,rfl,rfl,rfl,trivial⟩ ⟨by exact fx,by omega,bld_eq (e2_0 true t i (by omega)) (by exact fx)⟩ ?_;rintro j ρ3 w4 ⟨xW,hj1,hW⟩;have hS:=uO true j)|(refine c_loopV (fun (i:Nat) w'=>Ext wp w'∧i≤t.ins.length∧BldT b b (enc1 false t++catB encIn (t.ins.take i)) w') (fun i=> [(1,.bool false),(2,.pointer (some ⟨bp,0,none⟩)),(5,.pointer (some ⟨b,0,none⟩)),(6,.func (.func F.wire_encode_1) #[] #[.pointer (some ⟨b,0,none⟩)]),(32,iv),(33,.int .i64 (t.ins.length:Nat)),(34,.int .i64 i)]) (fun i=>t.ins.length - i) 0 ⟨rfl,rfl,rfl,rfl,rfl,rfl,rfl,trivial⟩ ⟨by exact fx,by omega,bld_eq (e1F t) (by exact fx)⟩ ?_;rintro i ρ w3 ⟨xW,hi1,hW⟩;have hS:=uI false i)|(refine c_loopV (fun (j:Nat) w'=>Ext wp w'∧j≤t.outs.length∧BldT b b (enc2 false t++catB encOut (t.outs.take j)) w') (fun j=> [(1,.bool false),(2,.pointer (some ⟨bp,0,none⟩)),(5,.pointer (some ⟨b,0,none⟩)),(6,.func (.func F.wire_encode_1) #[] #[.pointer (some ⟨b,0,none⟩)]),(62,ov),(63,.int .i64 (t.outs.length:Nat)),(64,.int .i64 j)]) (fun j=>t.outs.length - j) 0 ⟨rfl,rfl,rfl,rfl,rfl,rfl,rfl,trivial⟩ ⟨by exact fx,by omega,bld_eq (e2_0 false t i (by omega)) (by exact fx)⟩ ?_;rintro j ρ3 w4 ⟨xW,hj1,hW⟩;have hS:=uO false j)|(refine c_loopV (fun (a:Nat) w'=>Ext wp w'∧a≤t.ins.length∧BldT b b (enc3 true t++catB encWit (t.ins.take a)) w') (fun a=> [(1,.bool true),(2,.pointer (some ⟨bp,0,none⟩)),(5,.pointer (some ⟨b,0,none⟩)),(6,.func (.func F.wire_encode_1) #[] #[.pointer (some ⟨b,0,none⟩)]),(80,iv),(81,.int .i64 (t.ins.length:Nat)),(82,.int .i64 a)]) (fun a=>t.ins.length - a) 0 ⟨rfl,rfl,rfl,rfl,rfl,rfl,rfl,trivial⟩ ⟨by exact fx,by omega,bld_eq (e3_0 true t j (by omega)) (by exact fx)⟩ ?_;rintro a ρ4 w5 ⟨xW,ha1,hW⟩;have hS:=uW true a)|(refine c_loopV (fun (k:Nat) w'=>Ext wp w'∧k≤t.ins[a].wit.length∧BldT b b (enc3 true t++catB encWit (t.ins.take a)++vnS t.ins[a].wit.length++catB encItem (t.ins[a].wit.take k)) w') (fun k=> [(1,.bool true),(2,.pointer (some ⟨bp,0,none⟩)),(5,.pointer (some ⟨b,0,none⟩)),(6,.func (.func F.wire_encode_1) #[] #[.pointer (some ⟨b,0,none⟩)]),(80,iv),(81,.int .i64 (t.ins.length:Nat)),(82,.int .i64 a),(92,.slice wb t.ins[a].wit.length wcap),(93,.int .i64 (t.ins[a].wit.length:Nat)),(94,.int .i64 k)]) (fun k=>t.ins[a].wit.length - k) 0 ⟨rfl,rfl,rfl,rfl,rfl,rfl,rfl,rfl,rfl,rfl,trivial⟩ ⟨by exact fx,by omega,bld_eq (app_t0 _ _ _) (by exact fx)⟩ ?_;rintro k ρ5 w6 ⟨xW,hk1,hW⟩;have hS:=uK true a hal k)|(refine st_elemR0 (w0:=wp) (by exact fx) rfl rfl (n:=i) (l:=t.ins) (by exact fx) rfl (by omega) (fun ad cs r2 he=>?_);obtain ⟨wv,rfl,hw,_⟩:=he;obtain ⟨_,_,rfl⟩:=hw.form;have hil:i<t.ins.length:=(by omega);have hid:=hs.ids _ (List.getElem_mem hil))|(refine st_elemR0 (w0:=wp) (by exact fx) rfl rfl (n:=j) (l:=t.outs) (by exact fx) rfl (by omega) (fun ad cs r2 he=>?_);obtain ⟨rfl,_⟩:=he;have hjl:j<t.outs.length:=(by omega);have hsc:=hs.scr _ (List.getElem_mem hjl))|(refine st_elemR0 (w0:=wp) (by exact fx) rfl rfl (n:=a) (l:=t.ins) (by exact fx) rfl (by omega) (fun ad cs r2 he=>?_);obtain ⟨wv,rfl,hw,_⟩:=he;obtain ⟨wb,wcap,rfl⟩:=hw.form;have hal:a<t.ins.length:=(by omega);have hwl:=hs.wit _ (List.getElem_mem hal))|(refine st_elemR0 (w0:=wp) (by exact fx) rfl rfl (n:=k) (l:=t.ins[a].wit) hw rfl (by omega) (fun ad cs r4 he=>?_);have hq:cs= [Value.string t.ins[a].wit[k]]:=he;rw [hq] at r4;have hkl:k<t.ins[a].wit.length:=(by omega);have hit:=hs.item _ (List.getElem_mem hal) _ (List.getElem_mem hkl))|(refine zC rfl (counted_spec 0 (by omega) _) ?_;rintro _ w2 ⟨rfl,x2⟩)|(refine zC rfl (counted_spec t.ins.length (by omega) _) ?_;rintro _ w2 ⟨rfl,x2⟩)|(refine zC rfl (counted_spec t.outs.length (by omega) _) ?_;rintro _ w2 ⟨rfl,x2⟩)|(refine zC rfl (counted_spec t.ins[a].wit.length (by omega) _) ?_;rintro _ w2 ⟨rfl,x2⟩)|(refine zC rfl (sized_spec t.outs[j].s (by omega) _) ?_;rintro _ w2 ⟨rfl,x2⟩)|(refine zC rfl (sized_spec t.ins[a].wit[k] (by omega) _) ?_;rintro _ w2 ⟨rfl,x2⟩)|(refine zC rfl (wrs_spec t.ins[i].p.s _ (by exact fx) (by omega) (by omega)) ?_;rintro _ w1 ⟨hW,rW,hS⟩;have xW:=rW.ext (w0:=wp) (by exact fx) hb0;have ac:=At.wr rW (by focus (repeat (first|assumption|(apply At.ext;assumption)))) hne (by decide);have rc:=Row.of_at ac)|(refine zC rfl (wrs_spec (vnS 0) _ (by exact fx) (by omega) (vn_le _)) ?_;rintro _ w1 ⟨hW,rW,hS⟩;have xW:=rW.ext (w0:=wp) (by exact fx) hb0;have ac:=At.wr rW (by focus (repeat (first|assumption|(apply At.ext;assumption)))) hne (by decide);have rc:=Row.of_at ac)|(refine zC rfl (wrs_spec (vnS t.ins.length) _ (by exact fx) (by omega) (vn_le _)) ?_;rintro _ w1 ⟨hW,rW,hS⟩;have xW:=rW.ext (w0:=wp) (by exact fx) hb0;have ac:=At.wr rW (by focus (repeat (first|assumption|(apply At.ext;assumption)))) hne (by decide);have rc:=Row.of_at ac)|(refine zC rfl (wrs_spec (vnS t.outs.length) _ (by exact fx) (by omega) (vn_le _)) ?_;rintro _ w1 ⟨hW,rW,hS⟩;have xW:=rW.ext (w0:=wp) (by exact fx) hb0;have ac:=At.wr rW (by focus (repeat (first|assumption|(apply At.ext;assumption)))) hne (by decide);have rc:=Row.of_at ac)|(refine zC rfl (wrs_spec (vnS t.ins[a].wit.length) _ (by exact fx) (by omega) (vn_le _)) ?_;rintro _ w1 ⟨hW,rW,hS⟩;have xW:=rW.ext (w0:=wp) (by exact fx) hb0;have ac:=At.wr rW (by focus (repeat (first|assumption|(apply At.ext;assumption)))) hne (by decide);have rc:=Row.of_at ac)|(refine zC rfl (wrs_spec (vnS t.outs[j].s.size++t.outs[j].s) _ (by exact fx) (by omega) (sized_le (by assumption))) ?_;rintro _ w1 ⟨hW,rW,hS⟩;have xW:=rW.ext (w0:=wp) (by exact fx) hb0;have ac:=At.wr rW (by focus (repeat (first|assumption|(apply At.ext;assumption)))) hne (by decide);have rc:=Row.of_at ac)|(refine zC rfl (wrs_spec (vnS t.ins[a].wit[k].size++t.ins[a].wit[k]) _ (by exact fx) (by omega) (sized_le (by assumption))) ?_;rintro _ w1 ⟨hW,rW,hS⟩;have xW:=rW.ext (w0:=wp) (by exact fx) hb0;have ac:=At.wr rW (by focus (repeat (first|assumption|(apply At.ext;assumption)))) hne (by decide);have rc:=Row.of_at ac)|(refine st_callV rfl enc_hb1 rfl (putc_spec t.ver 4 (by decide) _ (by exact fx) (by omega)) ?_;rintro _ w1 ⟨hW,rW,hS⟩;have xW:=rW.ext (w0:=wp) (by exact fx) hb0;have ac:=At.wr rW (by focus (repeat (first|assumption|(apply At.ext;assumption)))) hne (by decide);have rc:=Row.of_at ac)|(refine st_callV rfl enc_hb1 rfl (putc_spec 0 1 (by decide) _ (by exact fx) (by omega)) ?_;rintro _ w1 ⟨hW,rW,hS⟩;have xW:=rW.ext (w0:=wp) (by exact fx) hb0;have ac:=At.wr rW (by focus (repeat (first|assumption|(apply At.ext;assumption)))) hne (by decide);have rc:=Row.of_at ac)|(refine st_callV rfl enc_hb1 rfl (putc_spec 1 1 (by decide) _ (by exact fx) (by omega)) ?_;rintro _ w1 ⟨hW,rW,hS⟩;have xW:=rW.ext (w0:=wp) (by exact fx) hb0;have ac:=At.wr rW (by focus (repeat (first|assumption|(apply At.ext;assumption)))) hne (by decide);have rc:=Row.of_at ac)|(refine st_callV rfl enc_hb1 rfl (putc_spec t.ins[i].p.i 4 (by decide) _ (by exact fx) (by omega)) ?_;rintro _ w1 ⟨hW,rW,hS⟩;have xW:=rW.ext (w0:=wp) (by exact fx) hb0;have ac:=At.wr rW (by focus (repeat (first|assumption|(apply At.ext;assumption)))) hne (by decide);have rc:=Row.of_at ac)|(refine st_callV rfl enc_hb1 rfl (putc_spec t.ins[i].q 4 (by decide) _ (by exact fx) (by omega)) ?_;rintro _ w1 ⟨hW,rW,hS⟩;have xW:=rW.ext (w0:=wp) (by exact fx) hb0;have ac:=At.wr rW (by focus (repeat (first|assumption|(apply At.ext;assumption)))) hne (by decide);have rc:=Row.of_at ac)|(refine st_callV rfl enc_hb1 rfl (putc_spec t.outs[j].v 8 (by decide) _ (by exact fx) (by omega)) ?_;rintro _ w1 ⟨hW,rW,hS⟩;have xW:=rW.ext (w0:=wp) (by exact fx) hb0;have ac:=At.wr rW (by focus (repeat (first|assumption|(apply At.ext;assumption)))) hne (by decide);have rc:=Row.of_at ac)|(refine st_callV rfl enc_hb1 rfl (putc_spec t.lock 4 (by decide) _ (by exact fx) (by omega)) ?_;rintro _ w1 ⟨hW,rW,hS⟩;have xW:=rW.ext (w0:=wp) (by exact fx) hb0;have ac:=At.wr rW (by focus (repeat (first|assumption|(apply At.ext;assumption)))) hne (by decide);have rc:=Row.of_at ac)|(refine zC rfl (wrs_spec t.ins[i].p.s _ (by exact fx) (by omega) (by omega)) ?_;rintro _ w1 ⟨hW,rW,hS⟩;have xW:=rW.ext (w0:=wp) (by exact fx) hb0)|(refine zC rfl (wrs_spec (vnS 0) _ (by exact fx) (by omega) (vn_le _)) ?_;rintro _ w1 ⟨hW,rW,hS⟩;have xW:=rW.ext (w0:=wp) (by exact fx) hb0)|(refine zC rfl (wrs_spec (vnS t.ins.length) _ (by exact fx) (by omega) (vn_le _)) ?_;rintro _ w1 ⟨hW,rW,hS⟩;have xW:=rW.ext (w0:=wp) (by exact fx) hb0)|(refine zC rfl (wrs_spec (vnS t.outs.length) _ (by exact fx) (by omega) (vn_le _)) ?_;rintro _ w1 ⟨hW,rW,hS⟩;have xW:=rW.ext (w0:=wp) (by exact fx) hb0)|(refine zC rfl (wrs_spec (vnS t.ins[a].wit.length) _ (by exact fx) (by omega) (vn_le _)) ?_;rintro _ w1 ⟨hW,rW,hS⟩;have xW:=rW.ext (w0:=wp) (by exact fx) hb0)|(refine zC rfl (wrs_spec (vnS t.outs[j].s.size++t.outs[j].s) _ (by exact fx) (by omega) (sized_le (by assumption))) ?_;rintro _ w1 ⟨hW,rW,hS⟩;have xW:=rW.ext (w0:=wp) (by exact fx) hb0)|(refine zC rfl (wrs_spec (vnS t.ins[a].wit[k].size++t.ins[a].wit[k]) _ (by exact fx) (by omega) (sized_le (by assumption))) ?_;rintro _ w1 ⟨hW,rW,hS⟩;have xW:=rW.ext (w0:=wp) (by exact fx) hb0)|(refine st_callV rfl enc_hb1 rfl (putc_spec t.ver 4 (by decide) _ (by exact fx) (by omega)) ?_;rintro _ w1 ⟨hW,rW,hS⟩;have xW:=rW.ext (w0:=wp) (by exact fx) hb0)|(refine st_callV rfl enc_hb1 rfl (putc_spec 0 1 (by decide) _ (by exact fx) (by omega)) ?_;rintro _ w1 ⟨hW,rW,hS⟩;have xW:=rW.ext (w0:=wp) (by exact fx) hb0)|(refine st_callV rfl enc_hb1 rfl (putc_spec 1 1 (by decide) _ (by exact fx) (by omega)) ?_;rintro _ w1 ⟨hW,rW,hS⟩;have xW:=rW.ext (w0:=wp) (by exact fx) hb0)|(refine st_callV rfl enc_hb1 rfl (putc_spec t.ins[i].p.i 4 (by decide) _ (by exact fx) (by omega)) ?_;rintro _ w1 ⟨hW,rW,hS⟩;have xW:=rW.ext (w0:=wp) (by exact fx) hb0)|(refine st_callV rfl enc_hb1 rfl (putc_spec t.ins[i].q 4 (by decide) _ (by exact fx) (by omega)) ?_;rintro _ w1 ⟨hW,rW,hS⟩;have xW:=rW.ext (w0:=wp) (by exact fx) hb0)|(refine st_callV rfl enc_hb1 rfl (putc_spec t.outs[j].v 8 (by decide) _ (by exact fx) (by omega)) ?_;rintro _ w1 ⟨hW,rW,hS⟩;have xW:=rW.ext (w0:=wp) (by exact fx) hb0)|(refine st_callV rfl enc_hb1 rfl (putc_spec t.lock 4 (by decide) _ (by exact fx) (by omega)) ?_;rintro _ w1 ⟨hW,rW,hS⟩;have xW:=rW.ext (w0:=wp) (by exact fx) hb0)|(refine zC rfl (bstr_spec _ (by exact fx)) ?_;rintro _ w9 ⟨rfl,hW,rW⟩;have xW:=rW.ext (w0:=wp) (by exact fx) hb0))
 all_goals first
  |exact ⟨i+1,⟨rfl,rfl,rfl,rfl,rfl,rfl,rfl,trivial⟩,⟨by exact fx,by omega,bld_eq (by rw [catB_take _ hil,encIn];simp only [ByteArray.append_assoc]) hW⟩,by omega⟩
  |exact ⟨j+1,⟨rfl,rfl,rfl,rfl,rfl,rfl,rfl,trivial⟩,⟨by exact fx,by omega,bld_eq (by rw [catB_take _ hjl,encOut];simp only [ByteArray.append_assoc]) hW⟩,by omega⟩
  |exact ⟨k+1,⟨rfl,rfl,rfl,rfl,rfl,rfl,rfl,rfl,rfl,rfl,trivial⟩,⟨by exact fx,by omega,bld_eq (by rw [catB_take _ hkl,encItem];simp only [ByteArray.append_assoc]) hW⟩,by omega⟩
  |exact ⟨a+1,⟨rfl,rfl,rfl,rfl,rfl,rfl,rfl,trivial⟩,⟨by exact fx,by omega,bld_eq (by rw [catB_take _ hal,encWit,List.take_of_length_le (l:=t.ins[a].wit) (i:=k) (by omega)];simp only [ByteArray.append_assoc]) hW⟩,by omega⟩
  |exact x_ret rfl ⟨congrArg Value.string (by rw [List.take_of_length_le (l:=t.ins) (i:=a) (by omega)];rfl),by exact fx⟩
  |exact x_ret rfl ⟨congrArg Value.string (by rw [List.take_of_length_le (l:=t.outs) (i:=j) (by omega),encT,enc4,if_neg (by decide),app_e];rfl),by exact fx⟩
  |trace_state
end Go.Proofs.YtbidkcjendncaaaGreatDoor
end
section
namespace Go.Proofs.YtbidkcjendncaaaGreatDoor
open Go Go.K
attribute [local irreducible] regK codeK retK KOp.wp K.Spec leS vnS str zero32 catB
theorem sz_of_check {t:Tx} (hs:t.Sm) (h:checkT t=0):t.Sz:=by
 unfold checkT at h
 split at h
 ·cases h
 rename_i hc
 split at h
 ·cases h
 rename_i hl
 split at h
 ·cases h
 rename_i hf
 simp only [Bool.not_eq_true',Bool.not_eq_false] at hc hf
 simp only [countsB,Bool.and_eq_true,decide_eq_true_eq,Bool.not_eq_true',List.any_eq_false] at hc
 simp only [longB,Bool.or_eq_true,not_or,Bool.not_eq_true,List.any_eq_false,longIn,longOut,longItem,decide_eq_false_iff_not] at hl
 simp only [formedT,Bool.not_eq_true',List.any_eq_false,badIn,Bool.or_eq_true,not_or,decide_eq_true_eq,decide_eq_false_iff_not,Decidable.not_not] at hf
 refine ⟨by omega,by omega,fun x hx=>?_,fun x hx=>?_,fun x hx s hs=>?_,fun x hx=>?_⟩
 ·have:=(hf x hx).1;omega
 ·have:=hc.2 x hx;simp at this;omega
 ·have:=hl.2 x hx;simp at this;have:=this s hs;omega
 ·have:=hl.1 x hx;omega
def bareV (t:Tx) (wb:Bool):Value:=if checkT t=0 then .tuple #[.string (encT wb t),.int .i64 0] else .tuple #[.string ⟨#[]⟩,.int .i64 (checkT t)]
theorem bare_spec {M:List Nat} {cs:List Value} {t:Tx} (w:World) (ht:txR.rel M w cs t) (hs:t.Sm):K.Spec Tryz.prog F.wire_Bare [.agg cs.toArray] w fun r w'=>r=bareV t false∧Ext w w':=by
 have ht0:=ht
 obtain ⟨iv,ov,rfl,hi,ho,hv,hl⟩:=ht
 refine s_wire_Bare rfl ?_
 unfold k_wire_Bare
 refine oy ?_
 repeat' (first|(first|refine go1 ?_|refine zg (fun _ _=>?_)|refine zi (fun _ _=>?_))|(first|refine zD rfl rfl (fun bp wp xp ap rp hp0=>?_)|refine zE (fun _=>rfl) rfl rfl rfl (fun bq wq xq aq rq hq0=>?_))|refine zM rfl (fun h=>?_) (fun h=>?_)|(refine zC rfl (tcheck_spec (M:=M) _ (cs:=txCs t iv ov) (by exact fx) hs) ?_;rintro _ w1 ⟨rfl,x1⟩)|(have hc:checkT t=0:=neq_f h;refine zC rfl (encode_spec (M:=M) false _ (cs:=txCs t iv ov) (by exact fx) (sz_of_check hs hc)) ?_;rintro _ w2 ⟨rfl,x2⟩))
 ·exact x_ret rfl ⟨by rw [bareV,if_neg (neq_t h)];rfl,by exact fx⟩
 ·exact x_ret rfl ⟨by rw [bareV,if_pos (neq_f h)];rfl,by exact fx⟩
theorem rputw_spec (n:Int) (k:Nat) (hk:k=1∨k=2∨k=4∨k=8) (w:World):K.Spec Tryz.prog F.kedgeref02_Put [.int .u64 (IntKind.u64.wrap n),.int .i64 (k:Nat)] w fun r w'=>r=.string (leS (u64N n) k)∧Ext w w':=by
 rw [u64N_wrap];exact rput_spec _ k hk (u64N_lt n) w
theorem any_take {α:Type} {p:α→Bool} {l:List α} {i:Nat} (h:i<l.length):(l.take (i+1)).any p=((l.take i).any p||p l[i]):=by
 rw [List.take_succ_eq_append_getElem h,List.any_append];simp only [List.any_cons,List.any_nil,Bool.or_false]
theorem str0:(⟨#[0]⟩:ByteArray)=vnS 0:=by unfold vnS leS str;rfl
theorem str01:(⟨#[0,1]⟩:ByteArray)=leS 0 1++leS 1 1:=by
 unfold leS
 rw [str_append]
 unfold str;rfl
end Go.Proofs.YtbidkcjendncaaaGreatDoor
end
section
namespace Go.Proofs.YtbidkcjendncaaaGreatDoor
open Go Go.K
attribute [local irreducible] regK codeK retK KOp.wp K.Spec leS vnS str zero32 catB
def witP (x:TIn):Bool:=decide ((x.wit.length:Int)>0)
def xB (c:Bool) (t:Tx) (n:Nat):Bool:=!c&&(t.ins.take n).any witP
theorem xB_succ {c:Bool} {t:Tx} {i:Nat} (h:i<t.ins.length):xB c t (i+1)=(xB c t i||(!c&&witP t.ins[i])):=by
 rw [xB,any_take h,xB];cases c<;>rfl
theorem xB_full {c:Bool} {t:Tx} {i:Nat} (h:t.ins.length≤i):xB c t i=(!c&&witB t):=by
 rw [xB,List.take_of_length_le h];rfl
theorem r1F (t:Tx):leS (u64N t.ver) 4++vnS t.ins.length=enc1 false t++catB encIn (t.ins.take 0):=by
 rw [←e1F,e_app]
theorem r1T (t:Tx):(leS (u64N t.ver) 4++⟨#[0,1]⟩)++vnS t.ins.length=enc1 true t++catB encIn (t.ins.take 0):=by
 rw [←e1T,e_app,str01]
 have:u64N 0=0:=rfl
 have:u64N 1=1:=rfl
 simp only [ByteArray.append_assoc, *]
set_option maxHeartbeats 4000000 in
theorem rbytes_spec {M : List Nat} {cs : List Value} {t : Tx} (c : Bool) (w : World) (ht : txR.rel M w cs t) (hs : t.Sz) : K.Spec Tryz.prog F.kedgeref06_Bytes [.agg cs.toArray, .bool c] w fun r w' => r = .string (encT (!c && witB t) t) ∧ Ext w w' := by
  obtain ⟨iv, ov, rfl, hi, ho, hv, hl⟩ := ht
  have g1 := hs.ins
  have g2 := hs.outs
  have g3 : (⟨#[0]⟩ : ByteArray).size = 1 := rfl
  have g4 : (⟨#[0, 1]⟩ : ByteArray).size = 2 := rfl
  have u1 := fun wb => Tx.Sz.e1 (t := t) wb
  have u2 := hs.e2
  have u3 := hs.e3
  have u4 := hs.e4
  have uI := hs.inC
  have uO := hs.outC
  have uW := hs.witC
  refine s_kedgeref06_Bytes rfl ?_
  unfold k_kedgeref06_Bytes
  refine oy ?_
  repeat' (first|(first|refine go1 ?_|refine zg (fun _ _=>?_)|refine zi (fun _ _=>?_))|(first|refine zD rfl rfl (fun bp wp xp ap rp hp0=>?_)|refine zE (fun _=>rfl) rfl rfl rfl (fun bq wq xq aq rq hq0=>?_))|refine zG rfl (by exact fx) ?_|refine zL rfl (fun h => ?_) (fun h => ?_)|refine zK rfl (fun h => ?_) (fun h => ?_)|(refine zM rfl (fun h5 => ?_) (fun h5 => ?_))|(refine st_catS rfl rfl ?_ ?_;(focus(try simp only [ByteArray.size_append, leS_size];omega)))|(refine c_loopV (fun (n : Nat) w' => wp = w' ∧ n ≤ t.ins.length) (fun n => [(1, .bool c), (2, .pointer (some ⟨bp, 0, none⟩)), (5, .bool (xB c t n)), (6, .int .i64 n)]) (fun n => t.ins.length - n) 0 ⟨rfl, rfl, congrArg Value.bool (by rw [xB, List.take_zero]; cases c <;> rfl), rfl, trivial⟩ ⟨rfl, by omega⟩ ?_; rintro n ρ0 _ ⟨rfl, hn1⟩)|(refine st_elemR rfl rfl (n := n) (l := t.ins) (by exact fx) rfl (by omega) (fun ad cs r2 he => ?_); obtain ⟨wv, rfl, hw, _⟩ := he; obtain ⟨_, _, rfl⟩ := hw.form; have hnl : n < t.ins.length := (by omega))|(have v1 := u1 true; refine c_loopV (fun (i : Nat) w' => Ext wp w' ∧ i ≤ t.ins.length) (fun i => [(1, .bool c), (2, .pointer (some ⟨bp, 0, none⟩)), (5, .bool true), (7, .string (enc1 true t ++ catB encIn (t.ins.take i))), (9, .int .i64 i)]) (fun i => t.ins.length - i) 0 ⟨rfl, rfl, congrArg Value.bool h5, congrArg Value.string (r1T t), rfl, trivial⟩ ⟨by exact fx, by omega⟩ ?_; rintro i ρ w3 ⟨x3, hi1⟩; have v2 := uI i)|(have v1 := u2 true; refine c_loopV (fun (j : Nat) w' => Ext wp w' ∧ j ≤ t.outs.length) (fun j => [(1, .bool c), (2, .pointer (some ⟨bp, 0, none⟩)), (5, .bool true), (7, .string (enc2 true t ++ catB encOut (t.outs.take j))), (12, .int .i64 j)]) (fun j => t.outs.length - j) 0 ⟨rfl, rfl, rfl, congrArg Value.string (e2_0 true t i (by omega)), rfl, trivial⟩ ⟨by exact fx, by omega⟩ ?_; rintro j ρ3 w4 ⟨x4, hj1⟩; have v2 := uO j)|(have v1 := u1 false; refine c_loopV (fun (i : Nat) w' => Ext wp w' ∧ i ≤ t.ins.length) (fun i => [(1, .bool c), (2, .pointer (some ⟨bp, 0, none⟩)), (5, .bool false), (7, .string (enc1 false t ++ catB encIn (t.ins.take i))), (9, .int .i64 i)]) (fun i => t.ins.length - i) 0 ⟨rfl, rfl, congrArg Value.bool h5, congrArg Value.string (r1F t), rfl, trivial⟩ ⟨by exact fx, by omega⟩ ?_; rintro i ρ w3 ⟨x3, hi1⟩; have v2 := uI i)|(have v1 := u2 false; refine c_loopV (fun (j : Nat) w' => Ext wp w' ∧ j ≤ t.outs.length) (fun j => [(1, .bool c), (2, .pointer (some ⟨bp, 0, none⟩)), (5, .bool false), (7, .string (enc2 false t ++ catB encOut (t.outs.take j))), (12, .int .i64 j)]) (fun j => t.outs.length - j) 0 ⟨rfl, rfl, rfl, congrArg Value.string (e2_0 false t i (by omega)), rfl, trivial⟩ ⟨by exact fx, by omega⟩ ?_; rintro j ρ3 w4 ⟨x4, hj1⟩; have v2 := uO j)|(have v1 := u3 true; refine c_loopV (fun (a : Nat) w' => Ext wp w' ∧ a ≤ t.ins.length) (fun a => [(1, .bool c), (2, .pointer (some ⟨bp, 0, none⟩)), (5, .bool true), (7, .string (enc3 true t ++ catB encWit (t.ins.take a))), (14, .int .i64 a)]) (fun a => t.ins.length - a) 0 ⟨rfl, rfl, rfl, congrArg Value.string (e3_0 true t j (by omega)), rfl, trivial⟩ ⟨by exact fx, by omega⟩ ?_; rintro a ρ4 w5 ⟨x5, ha1⟩; have v2 := uW a)|(have v1 := u3 false; refine c_loopV (fun (_ : Unit) w' => Ext wp w') (fun _ => [(1, .bool c), (2, .pointer (some ⟨bp, 0, none⟩)), (5, .bool false), (7, .string (enc3 false t)), (14, .int .i64 0)]) (fun _ => 0) () ⟨rfl, rfl, rfl, congrArg Value.string (by rw [enc3, List.take_of_length_le (l := t.outs) (i := j) (by omega)]), rfl, trivial⟩ (by exact fx) ?_; rintro _ ρ4 w5 x5)|(have hal : a < t.ins.length := (by omega); refine c_loopV (fun (k : Nat) w' => Ext wp w' ∧ k ≤ t.ins[a].wit.length) (fun k => [(1, .bool c), (2, .pointer (some ⟨bp, 0, none⟩)), (5, .bool true), (7, .string (enc3 true t ++ catB encWit (t.ins.take a) ++ vnS t.ins[a].wit.length ++ catB encItem (t.ins[a].wit.take k))), (14, .int .i64 a), (15, .int .i64 k)]) (fun k => t.ins[a].wit.length - k) 0 ⟨rfl, rfl, rfl, congrArg Value.string (app_t0 _ _ _), rfl, rfl, trivial⟩ ⟨by exact fx, by omega⟩ ?_; rintro k ρ5 w6 ⟨x6, hk1⟩; have v3 := hs.itemC (List.getElem_mem hal) k; have v4 := vnS_size t.ins[a].wit.length)|(refine st_elemR rfl rfl (n := k) (l := t.ins[a].wit) (by exact fx) rfl (by omega) (fun ad cs r4 he => ?_); have hq : cs = [Value.string t.ins[a].wit[k]] := he; rw [hq] at r4; have hkl : k < t.ins[a].wit.length := (by omega); have hit := hs.item _ (List.getElem_mem hal) _ (List.getElem_mem hkl))|(refine st_elemR rfl rfl (n := i) (l := t.ins) (by exact fx) rfl (by omega) (fun ad cs r2 he => ?_); obtain ⟨wv, rfl, hw, _⟩ := he; obtain ⟨_, _, rfl⟩ := hw.form; have hil : i < t.ins.length := (by omega); have hid := hs.ids _ (List.getElem_mem hil); have hwl := hs.wit _ (List.getElem_mem hil))|(refine st_elemR rfl rfl (n := a) (l := t.ins) (by exact fx) rfl (by omega) (fun ad cs r2 he => ?_); obtain ⟨wv, rfl, hw, _⟩ := he; obtain ⟨_, _, rfl⟩ := hw.form; have hal : a < t.ins.length := (by omega); have hid := hs.ids _ (List.getElem_mem hal); have hwl := hs.wit _ (List.getElem_mem hal))|(refine st_elemR rfl rfl (n := j) (l := t.outs) (by exact fx) rfl (by omega) (fun ad cs r2 he => ?_); obtain ⟨rfl, _⟩ := he; have hjl : j < t.outs.length := (by omega); have hsc := hs.scr _ (List.getElem_mem hjl))|(refine zC rfl (rlength_spec t.ins.length (by omega) _) ?_; rintro _ w2 ⟨rfl, x2⟩; have hvn := vnS_size t.ins.length)|(refine zC rfl (rlength_spec t.outs.length (by omega) _) ?_; rintro _ w2 ⟨rfl, x2⟩; have hvn := vnS_size t.outs.length)|(refine zC rfl (rlength_spec t.outs[j].s.size (by omega) _) ?_; rintro _ w2 ⟨rfl, x2⟩; have hvn := vnS_size t.outs[j].s.size)|(refine zC rfl (rlength_spec t.ins[a].wit.length (by omega) _) ?_; rintro _ w2 ⟨rfl, x2⟩; have hvn := vnS_size t.ins[a].wit.length)|(refine zC rfl (rlength_spec t.ins[a].wit[k].size (by omega) _) ?_; rintro _ w2 ⟨rfl, x2⟩; have hvn := vnS_size t.ins[a].wit[k].size)|(refine zC rfl (rputw_spec t.ver 4 (by decide) _) ?_; rintro _ w2 ⟨rfl, x2⟩)|(refine zC rfl (rputw_spec t.ins[i].p.i 4 (by decide) _) ?_; rintro _ w2 ⟨rfl, x2⟩)|(refine zC rfl (rputw_spec t.ins[i].q 4 (by decide) _) ?_; rintro _ w2 ⟨rfl, x2⟩)|(refine zC rfl (rputw_spec t.outs[j].v 8 (by decide) _) ?_; rintro _ w2 ⟨rfl, x2⟩)|(refine zC rfl (rputw_spec t.lock 4 (by decide) _) ?_; rintro _ w2 ⟨rfl, x2⟩))
  all_goals first
    | exact ⟨n + 1, ⟨rfl, rfl, congrArg Value.bool (by rw [xB_succ (by omega)]; simp_all [witP]), rfl, trivial⟩, ⟨rfl, by omega⟩, by omega⟩
    | exact ⟨i + 1, ⟨rfl, rfl, rfl, congrArg Value.string (by rw [catB_take _ hil, encIn, ← str0]; simp only [ByteArray.append_assoc]), rfl, trivial⟩, ⟨by exact fx, by omega⟩, by omega⟩
    | exact ⟨j + 1, ⟨rfl, rfl, rfl, congrArg Value.string (by rw [catB_take _ hjl, encOut]; simp only [ByteArray.append_assoc]), rfl, trivial⟩, ⟨by exact fx, by omega⟩, by omega⟩
    | exact ⟨k + 1, ⟨rfl, rfl, rfl, congrArg Value.string (by rw [catB_take _ hkl, encItem]; simp only [ByteArray.append_assoc]), rfl, rfl, trivial⟩, ⟨by exact fx, by omega⟩, by omega⟩
    | exact ⟨a + 1, ⟨rfl, rfl, rfl, congrArg Value.string (by rw [catB_take _ hal, encWit, List.take_of_length_le (l := t.ins[a].wit) (i := k) (by omega)]; simp only [ByteArray.append_assoc]), rfl, trivial⟩, ⟨by exact fx, by omega⟩, by omega⟩
    | (have hx : (!c && witB t) = true := by rw [← xB_full (c := c) (i := n) (by omega)]; exact h5
       exact x_ret rfl ⟨congrArg Value.string (by rw [hx, List.take_of_length_le (l := t.ins) (i := a) (by omega)]; rfl), by exact fx⟩)
    | (have hx : (!c && witB t) = false := by rw [← xB_full (c := c) (i := n) (by omega)]; exact h5
       exact x_ret rfl ⟨congrArg Value.string (by rw [hx, encT, enc4, if_neg (by decide), app_e]), by exact fx⟩)
    | trace_state
end Go.Proofs.YtbidkcjendncaaaGreatDoor
end
section
namespace Go.K
open Go
structure S8 where
 a:W32
 b:W32
 c:W32
 d:W32
 e:W32
 f:W32
 g:W32
 h:W32
@[reducible] def S8.l (s:S8):List W32:= [s.a,s.b,s.c,s.d,s.e,s.f,s.g,s.h]
@[reducible] def S8.cs (s:S8):List Value:= [u32 s.a,u32 s.b,u32 s.c,u32 s.d,u32 s.e,u32 s.f,u32 s.g,u32 s.h]
def wCs (l:List W32):List Value:=l.map u32
theorem S8.cs_eq (s:S8):s.cs=wCs s.l:=rfl
def big0 (x:W32):W32:=rot x 2^^^rot x 13^^^rot x 22
def big1 (x:W32):W32:=rot x 6^^^rot x 11^^^rot x 25
def sml0 (x:W32):W32:=rot x 7^^^rot x 18^^^x>>>3
def sml1 (x:W32):W32:=rot x 17^^^rot x 19^^^x>>>10
def tOne (s:S8) (k w:W32):W32:=s.h+big1 s.e+(s.e&&& s.f^^^ ~~~s.e&&& s.g)+k+w
def tTwo (s:S8):W32:=big0 s.a+(s.a&&& s.b^^^s.a&&& s.c^^^s.b&&& s.c)
def rnd (s:S8) (k w:W32):S8:=⟨tOne s k w+tTwo s,s.a,s.b,s.c,s.d+tOne s k w,s.e,s.f,s.g⟩
def wAt (l:List W32) (i:Nat):W32:=l.getD i 0
def wseq (b:List W32):Nat→List W32
 |0=> []
 |n+1=>wseq b n++ [if n<16 then wAt b n else wAt (wseq b n) (n - 16)+sml0 (wAt (wseq b n) (n - 15))+wAt (wseq b n) (n - 7)+sml1 (wAt (wseq b n) (n - 2))]
theorem wseq_length (b:List W32):∀n,(wseq b n).length=n
 |0=>rfl
 |n+1=>by simp [wseq,wseq_length b n]
def be32 (l:List UInt8):W32:=BitVec.ofNat 32 (((l.getD 0 0).toNat*256+(l.getD 1 0).toNat)*256*256+(l.getD 2 0).toNat*256+(l.getD 3 0).toNat)
def blkW (m:List UInt8):List W32:=(List.range 16).map fun i=>be32 (m.drop (4*i))
def kTab:List W32:= [1116352408,1899447441,3049323471,3921009573,961987163,1508970993,2453635748,2870763221,3624381080,310598401,607225278,1426881987,1925078388,2162078206,2614888103,3248222580,3835390401,4022224774,264347078,604807628,770255983,1249150122,1555081692,1996064986,2554220882,2821834349,2952996808,3210313671,3336571891,3584528711,113926993,338241895,666307205,773529912,1294757372,1396182291,1695183700,1986661051,2177026350,2456956037,2730485921,2820302411,3259730800,3345764771,3516065817,3600352804,4094571909,275423344,430227734,506948616,659060556,883997877,958139571,1322822218,1537002063,1747873779,1955562222,2024104815,2227730452,2361852424,2428436474,2756734187,3204031479,3329325298]
def s8Init:S8:=⟨1779033703,3144134277,1013904242,2773480762,1359893119,2600822924,528734635,1541459225⟩
def rnds (ws:List W32) (s:S8):Nat→S8
 |0=>s
 |n+1=>rnd (rnds ws s n) (wAt kTab n) (wAt ws n)
def add8 (s t:S8):S8:=⟨s.a+t.a,s.b+t.b,s.c+t.c,s.d+t.d,s.e+t.e,s.f+t.f,s.g+t.g,s.h+t.h⟩
def comp (s:S8) (m:List UInt8):S8:=add8 s (rnds (wseq (blkW m) 64) s 64)
def padN (n:Nat):Nat:=(119 - n%64)%64
def padL (l:List UInt8):List UInt8:=l++ [128]++List.replicate (padN l.length) 0++(leL (l.length*8) 8).reverse
theorem padL_length (l:List UInt8):(padL l).length%64=0:=by
 simp only [padL,List.length_append,List.length_reverse,leL_length,List.length_replicate,List.length_cons,List.length_nil,padN]
 omega
def outW (l:List W32):ByteArray:=catB (fun x:W32=>str (leL x.toNat 4).reverse) l
section
variable {P:Program} {d:Option Tmp} {r:KR} {K:Env→World→Prop} {ρ:Env} {w:World}
theorem st_arr {size ln:Nat} {x i:Operand} {kd:IntKind} {ad:Addr} (n:Nat) (hx:ev ρ x=.pointer (some ad)) (hi:ev ρ i=.int kd (n:Nat)) (hr:n<ln) (k:regK P r K (put ρ d (.pointer (some (ad.add (n*size))))) w):regK P (.cons ⟨d,.indexArr size ln x i,none⟩ r) K ρ w:=
 st_fix rfl (by simp only [KOp.fix,hx,hi];rw [if_pos (by omega)];rfl) k
theorem wCs_get {l:List W32} {n:Nat} (h:n<l.length):(wCs l)[n]? =some (u32 (wAt l n)):=by
 simp [wCs,wAt,h]
theorem st_ldW {x:Operand} {ad:Addr} {l:List W32} (n:Nat) (hx:ev ρ x=.pointer (some (ad.add (n*1)))) (h:Row w ad (wCs l)) (hn:n<l.length) (k:regK P r K (put ρ d (u32 (wAt l n))) w):regK P (.cons ⟨d,.load x,none⟩ r) K ρ w:=
 st_ld1 hx h (by rw [Nat.mul_one];exact wCs_get hn) k
theorem st_wAdd {x y:Operand} {a b:W32} (hx:ev ρ x=u32 a) (hy:ev ρ y=u32 b) (k:regK P r K (put ρ d (u32 (a+b))) w):regK P (.cons ⟨d,.bin .add x y,none⟩ r) K ρ w:=st_bin hx hy (w32_add a b) k
theorem st_wAnd {x y:Operand} {a b:W32} (hx:ev ρ x=u32 a) (hy:ev ρ y=u32 b) (k:regK P r K (put ρ d (u32 (a&&& b))) w):regK P (.cons ⟨d,.bin .and x y,none⟩ r) K ρ w:=st_bin hx hy (w32_and a b) k
theorem st_wOr {x y:Operand} {a b:W32} (hx:ev ρ x=u32 a) (hy:ev ρ y=u32 b) (k:regK P r K (put ρ d (u32 (a|||b))) w):regK P (.cons ⟨d,.bin .or x y,none⟩ r) K ρ w:=st_bin hx hy (w32_or a b) k
theorem st_wXor {x y:Operand} {a b:W32} (hx:ev ρ x=u32 a) (hy:ev ρ y=u32 b) (k:regK P r K (put ρ d (u32 (a^^^b))) w):regK P (.cons ⟨d,.bin .xor x y,none⟩ r) K ρ w:=st_bin hx hy (w32_xor a b) k
theorem st_wShr {x y:Operand} {a:W32} {kd:IntKind} (n:Nat) (h:n<32) (hx:ev ρ x=u32 a) (hy:ev ρ y=.int kd (n:Nat)) (k:regK P r K (put ρ d (u32 (a>>>n))) w):regK P (.cons ⟨d,.bin .shr x y,none⟩ r) K ρ w:=st_bin hx hy (w32_shr a kd n h) k
theorem st_wShl {x y:Operand} {a:W32} {kd:IntKind} (n:Nat) (h:n<32) (hx:ev ρ x=u32 a) (hy:ev ρ y=.int kd (n:Nat)) (k:regK P r K (put ρ d (u32 (a<<<n))) w):regK P (.cons ⟨d,.bin .shl x y,none⟩ r) K ρ w:=st_bin hx hy (w32_shl a kd n h) k
theorem not_eq (a:W32):intBin .xor .u32 4294967295 (a.toNat:Nat)=some (u32 (~~~a)):=by
 have e:(4294967295:Int)=((BitVec.allOnes 32).toNat:Nat):=by decide
 simp only [intBin,IntKind.bits]
 rw [e,ofInt_nat,ofInt_nat]
 have h2:(BitVec.allOnes 32^^^a)= ~~~a:=BitVec.allOnes_xor
 exact congrArg some (congrArg (Value.int .u32) ((congrArg (fun x:W32=>IntKind.u32.wrap (x.toNat:Nat)) h2).trans (wrap_nat _)))
theorem st_wNot {x:Operand} {a:W32} (hx:ev ρ x=u32 a) (k:regK P r K (put ρ d (u32 (~~~a))) w):regK P (.cons ⟨d,.unNeg true x,none⟩ r) K ρ w:=
 st_fix rfl (by simp only [KOp.fix,hx,u32,if_true];exact not_eq a) k
theorem st_wByte {x:Operand} {b:UInt8} (hx:ev ρ x=.int .u8 (b.toNat:Nat)) (k:regK P r K (put ρ d (u32 (BitVec.ofNat 32 b.toNat))) w):regK P (.cons ⟨d,.conv .u32 x,none⟩ r) K ρ w:=
 st_fix rfl (by
  simp only [KOp.fix,hx,u32]
  refine congrArg some (congrArg (Value.int .u32) ?_)
  have:=b.toNat_lt
  rw [wrap32,BitVec.toNat_ofNat];omega) k
theorem u32_cells (x:W32):(u32 x).cells=#[u32 x]:=rfl
theorem fill8 {e:Operand→Value} {z0 z1 z2 z3 z4 z5 z6 z7:Value} {x0 x1 x2 x3 x4 x5 x6 x7:Operand} {s:S8} (h0:e x0=u32 s.a) (h1:e x1=u32 s.b) (h2:e x2=u32 s.c) (h3:e x3=u32 s.d) (h4:e x4=u32 s.e) (h5:e x5=u32 s.f) (h6:e x6=u32 s.g) (h7:e x7=u32 s.h):
  fillK e [z0,z1,z2,z3,z4,z5,z6,z7] [(0,1,x0),(1,1,x1),(2,1,x2),(3,1,x3),(4,1,x4),(5,1,x5),(6,1,x6),(7,1,x7)]=some s.cs:=by
 simp [fillK,h0,h1,h2,h3,h4,h5,h6,h7,u32_cells]
theorem st_build {z:List Value} {ps:List (Nat × Nat × Operand)} {cs:List Value} (hf:fillK (ev ρ) z ps=some cs) (k:regK P r K (put ρ d (.agg cs.toArray)) w):regK P (.cons ⟨d,.build z ps,none⟩ r) K ρ w:=st_fix rfl (by simp [KOp.fix,hf]) k
theorem cs_one (s:S8):s.cs.all (fun v=>v.oneCell')=true:=rfl
end
end Go.K
end
section
namespace Go.K
open Go
def bCs (l:List UInt8):List Value:=l.map fun b:UInt8=>Value.int .u8 b.toNat
theorem bCs_length (l:List UInt8):(bCs l).length=l.length:=by simp [bCs]
def hiL (n k i:Nat):List UInt8:=List.replicate (k - i) 0++(leL n i).reverse
theorem hiL_length {n k i:Nat} (h:i≤k):(hiL n k i).length=k:=by simp [hiL,leL_length];omega
theorem set_mid (m:Nat) (x:UInt8) (R:List UInt8):(List.replicate (m+1) 0++R).set m x=List.replicate m 0++x::R:=by
 induction m with
 |zero=>rfl
 |succ m ih=>
  rw [List.replicate_succ,List.cons_append,List.set_cons_succ,ih];rfl
theorem hiL_set {n k i o:Nat} (h:i<k) (ho:o=k - 1 - i):(bCs (hiL n k i)).set o (.int .u8 (IntKind.u8.wrap ((n / 256^i:Nat):Int)))=bCs (hiL n k (i+1)):=by
 subst ho
 rw [u8_wrap,bCs,bCs]
 have e:Value.int .u8 ((UInt8.ofNat (n / 256^i)).toNat:Nat)=(fun b:UInt8=>Value.int .u8 b.toNat) (UInt8.ofNat (n / 256^i)):=rfl
 rw [e,←List.map_set]
 congr 1
 obtain ⟨m,hm⟩:∃m,k - i=m+1:=⟨k - i - 1,by omega⟩
 rw [hiL,hiL,hm,show k - 1 - i=m by omega,show k - (i+1)=m by omega,set_mid,leL,List.reverse_append];rfl
theorem shr8 {n i:Nat}:Int.fdiv ((n / 256^i:Nat):Int) (2^(min (8:Int).toNat IntKind.u64.bits))=((n / 256^(i+1):Nat):Int):=by
 rw [Nat.pow_succ,←Nat.div_div_eq_div_mul]
 rw [Int.fdiv_eq_ediv_of_nonneg _ (by decide)]
 rfl
section
variable {P:Program} {d:Option Tmp} {r:KR} {K:Env→World→Prop} {ρ:Env} {w:World}
theorem zeros_bytes (n:Nat):zeros [Value.int .u8 0] n=bCs (List.replicate n 0):=by
 induction n with
 |zero=>rfl
 |succ n ih=>rw [zeros,ih];rfl
theorem st_mkB {x y:Operand} {t:TypeId} {n:Nat} (hx:ev ρ x=.int .i64 (n:Nat)) (hy:ev ρ y=.int .i64 (n:Nat)) (hn:n≤1000)
  (k:∀b w',Ext w w'→At w' b (.cells (bCs (List.replicate n 0)).toArray t (0,0))→w.heap.size≤b→regK P r K (put ρ d (.slice (some ⟨b,0,none⟩) n n)) w'):regK P (.cons ⟨d,.makeSlice t 1 1 [.int .u8 0] x y,none⟩ r) K ρ w:=
 st_wp ⟨_,_,_,_,hx,hy,by omega,by omega,by omega,by omega,by
  rw [Int.toNat_natCast,zeros_bytes]
  exact k _ _ (Ext.alloc _ _) (At.new _ _) (Nat.le_refl _)⟩
theorem st_rem {x y:Operand} {n m:Nat} (hx:ev ρ x=.int .i64 (n:Nat)) (hy:ev ρ y=.int .i64 (m:Nat)) (h0:0<m) (k:regK P r K (put ρ d (.int .i64 ((n%m:Nat):Int))) w):regK P (.cons ⟨d,.bin .rem x y,none⟩ r) K ρ w:=
 st_bin hx hy (by
  have hne:(m:Int)≠0:=by omega
  simp only [binVal,isShift,Bool.false_eq_true,if_false,if_true,intBin]
  rw [tm]
  rw [if_neg hne]) k
theorem bytes_sl {b n c:Nat} {l:List UInt8} {t:TypeId} (h:At w b (.cells (bCs l).toArray t (0,0))) (hl:n=l.length) (hc:n≤c):SlE u8E w (.slice (some ⟨b,0,none⟩) n c) l:=
 SlE.new (E:=u8E) (by rw [u8_flat];exact h) hl hc
end
theorem str_self (s:ByteArray):s=str s.data.toList:=by apply ByteArray.ext;simp [str]
theorem pad_eq (s:ByteArray):s++⟨#[128]⟩++str (List.replicate (padN s.size) 0)++str (leL (s.size*8) 8).reverse=str (padL s.data.toList):=by
 have h:(⟨#[128]⟩:ByteArray)=str [128]:=rfl
 have hl:s.data.toList.length=s.size:=by rw [Array.length_toList];rfl
 rw [padL,hl]
 conv=>lhs;rw [str_self s]
 have hs:(str s.data.toList).size=s.size:=by rw [←str_self]
 rw [h,hs,str_append,str_append,str_append]
end Go.K
end
section
namespace Go.Proofs.YtbidkcjendncaaaGreatDoor
open Go Go.K
attribute [local irreducible] regK codeK retK KOp.wp K.Spec u32 leS vnS str zero32 catB
theorem high_spec (n k:Nat) (hk:k≤8) (w:World):K.Spec Tryz.prog F.sha_high [.int .u64 (n:Nat),.int .i64 (k:Nat)] w fun r w'=>r=.string (str (leL n k).reverse)∧Ext w w':=by
 refine s_sha_high rfl ?_
 unfold k_sha_high
 refine oy ?_
 repeat' (first|(first|refine go1 ?_|refine zg (fun _ _=>?_)|refine zi (fun _ _=>?_))|refine zL rfl (fun h=>?_) (fun h=>?_)|(refine st_mkB rfl rfl (by omega) (fun b w1 x1 a1 hb=>?_))|(refine c_loopV (fun (i:Nat) w'=>Ext w w'∧i≤k∧At w' b (.cells (bCs (hiL n k i)).toArray T.uint8 (0,0))) (fun i=> [(0,.int .u64 ((n / 256^i:Nat):Int)),(1,.int .i64 (k:Nat)),(5,.slice (some ⟨b,0,none⟩) k k),(10,.int .i64 (k:Nat)),(11,.int .i64 i)]) (fun i=>k - i) 0 ⟨by simp;rfl,rfl,rfl,rfl,rfl,trivial⟩ ⟨x1,by omega,by simpa [hiL,leL] using a1⟩ ?_;rintro i ρ w2 ⟨x2,hi,ha⟩)|(refine st_index rfl rfl (by omega) ?_)|(refine st_store rfl rfl rfl ha (by rw [bCs_length,hiL_length hi];omega) (fun w3 c3 a3=>?_))|(refine st_strU rfl (bytes_sl ha (hiL_length hi).symm (Nat.le_refl _)) ?_))
 ·refine ⟨i+1,⟨congrArg (Value.int .u64) shr8,rfl,rfl,rfl,rfl,trivial⟩,⟨(x2.chg c3).mono (by intro y hy;simp at hy;right;omega),by omega,?_⟩,by omega⟩
  rw [←hiL_set (n:=n) (o:=((k:Int) - 1 - i).toNat*1) (by omega) (by omega)]
  exact a3
 ·have e:i=k:=by omega
  subst e
  exact x_ret rfl ⟨congrArg (fun l=>Value.string (str l)) (by simp [hiL]),x2⟩
theorem wrap8 {n:Nat} (h:n≤4000000):IntKind.u64.wrap (IntKind.u64.wrap (n:Int)*8)=((n*8:Nat):Int):=by
 have e:IntKind.u64.wrap (n:Int)=n:=u64_wrap (by omega) (by omega)
 rw [e,u64_wrap (by omega) (by omega)];omega
theorem padded_spec (s:ByteArray) (hs:s.size≤4000000) (w:World):K.Spec Tryz.prog F.sha_padded [.string s] w fun r w'=>r=.string (str (padL s.data.toList))∧Ext w w':=by
 have g1:(⟨#[128]⟩:ByteArray).size=1:=rfl
 have g2:(str (List.replicate (padN s.size) 0)).size=padN s.size:=by rw [str_size];simp
 have g3:(str (leL (s.size*8) 8).reverse).size=8:=by rw [str_size];simp [leL_length]
 have g4:padN s.size<64:=by unfold padN;omega
 refine s_sha_padded rfl ?_
 unfold k_sha_padded
 refine oy ?_
 repeat' (first|(refine st_rem (n:=s.size) (m:=64) rfl rfl (by decide) ?_)|(refine st_rem (n:=119 - s.size%64) (m:=64) (congrArg (Value.int .i64) (by omega)) rfl (by decide) ?_)|(first|refine go1 ?_|refine zg (fun _ _=>?_)|refine zi (fun _ _=>?_))|(refine zC rfl (rep_spec (padN s.size) (by omega) _) ?_;rintro _ w1 ⟨rfl,x1⟩)|(refine zC (congrArg (fun x=> [Value.int .u64 x,Value.int .i64 8]) (wrap8 hs)) (high_spec (s.size*8) 8 (by decide) _) ?_;rintro _ w2 ⟨rfl,x2⟩)|(refine st_catS rfl rfl ?_ ?_;(focus((try simp only [ByteArray.size_append]);omega))))
 exact x_ret rfl ⟨congrArg Value.string (pad_eq s),by exact fx⟩
end Go.Proofs.YtbidkcjendncaaaGreatDoor
end
