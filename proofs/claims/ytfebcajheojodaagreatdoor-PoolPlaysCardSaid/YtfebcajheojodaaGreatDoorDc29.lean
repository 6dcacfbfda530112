/- Plain: what the document fixes of replacing. Contracts: what the document fixes of replacing. Plain: transactions alike in all parts are one. Contracts: whether two transactions are alike. The walk of ReplaceComes. Contracts: sets of coins. Errors, and views of coins, as they lie. Contracts: a view over a graph. Contracts: dust; one amount less another one. Contracts: numbers in bytes, read; locks -/
import Derived.Test.YtfebcajheojodaaGreatDoorDc28
set_option linter.unusedVariables false
set_option linter.unusedSimpArgs false
section
namespace Go.K
open Go Go.Proofs.YtfebcajheojodaaGreatDoor
end Go.K
end
section
namespace Go.Proofs.YtfebcajheojodaaGreatDoor
open Go Go.K
attribute [local irreducible] regK codeK retK KOp.wp K.Spec u32 leS vnS str zero32 sha2 encT idT sizeT checkT grantB idN stepR workL reachE findI dropG addG oneM idL
attribute [local irreducible] eB needN needE rulesL confL evL idsOf
end Go.Proofs.YtfebcajheojodaaGreatDoor
end
section
namespace Go.K
open Go
theorem pt_ext {p q:Pt} (h1:p.s=q.s) (h2:p.i=q.i):p=q:=by cases p;cases q;simp_all
theorem take_eq {α:Type} {l m:List α} {i:Nat} (h:l.take i=m.take i) (hl:i<l.length) (hm:i<m.length) (e:l[i]=m[i]):l.take (i+1)=m.take (i+1):=by
 rw [List.take_succ_eq_append_getElem hl,List.take_succ_eq_append_getElem hm,h,e]
end Go.K
end
section
namespace Go.Proofs.YtfebcajheojodaaGreatDoor
open Go Go.K
attribute [local irreducible] regK codeK retK KOp.wp K.Spec u32 leS vnS str zero32 sha2 encT idT sizeT checkT grantB
end Go.Proofs.YtfebcajheojodaaGreatDoor
end
section
namespace Go.Proofs.YtfebcajheojodaaGreatDoor
open Go Go.K
attribute [local irreducible] regK codeK retK KOp.wp K.Spec u32 leS vnS str zero32 sha2 encT idT sizeT checkT grantB idN stepR workL reachE findI dropG addG needN needE rulesL enoughL confL evL idsOf goneF cmpR hitE inB aboveL leftL dropAll
end Go.Proofs.YtfebcajheojodaaGreatDoor
end
section
namespace Go.Proofs.YtfebcajheojodaaGreatDoor
open Go Go.K
attribute [local irreducible] regK codeK retK KOp.wp K.Spec
theorem cformed_spec (p:Pt) (c:Cn) (w:World):K.Spec Tryz.prog F.coins_formed [p.val,c.val] w fun v w'=>v=.bool (formedB p c)∧Ext w w':=by
 refine s_coins_formed rfl ?_
 unfold k_coins_formed
 refine oy ?_
 repeat (first|refine go ?_|refine zg (fun _ _=>?_)|refine zi (fun _ _=>?_))
 refine st_box rfl rfl (fun b1 w1 x1 _ r1 _=>?_)
 repeat (first|refine go ?_|refine zg (fun _ _=>?_)|refine zi (fun _ _=>?_))
 refine st_box rfl rfl (fun b2 w2 x2 _ r2 _=>?_)
 repeat (first|refine go ?_|refine zg (fun _ _=>?_)|refine zi (fun _ _=>?_))
 have e32:((p.s.size:Int)=32)↔p.s.size=32:=by omega
 refine g_split rfl (fun h1=>?_) (fun h1=>?_)
 ·repeat (first|refine go ?_|refine zg (fun _ _=>?_)|refine zi (fun _ _=>?_))
  refine g_split rfl (fun h2=>?_) (fun h2=>?_)
  ·repeat (first|refine go ?_|refine zg (fun _ _=>?_)|refine zi (fun _ _=>?_))
   refine g_split rfl (fun h3=>?_) (fun h3=>?_)
   ·repeat (first|refine go ?_|refine zg (fun _ _=>?_)|refine zi (fun _ _=>?_))
    refine x_ret rfl ⟨congrArg Value.bool ?_,x1.trans x2⟩
    simp [formedB,e32.1 h1,h2,h3]
   ·repeat (first|refine go ?_|refine zg (fun _ _=>?_)|refine zi (fun _ _=>?_))
    refine x_ret rfl ⟨congrArg Value.bool ?_,x1.trans x2⟩
    simp [formedB,h3]
  ·repeat (first|refine go ?_|refine zg (fun _ _=>?_)|refine zi (fun _ _=>?_))
   refine x_ret rfl ⟨congrArg Value.bool ?_,x1.trans x2⟩
   simp [formedB,h2]
 ·repeat (first|refine go ?_|refine zg (fun _ _=>?_)|refine zi (fun _ _=>?_))
  refine x_ret rfl ⟨congrArg Value.bool ?_,x1.trans x2⟩
  have h1':¬p.s.size=32:=fun h=>h1 (e32.2 h)
  simp [formedB,h1']
theorem cnew_spec (w:World):K.Spec Tryz.prog F.coins_New [] w fun v w'=>∃b mb,v=.pointer (some ⟨b,0,none⟩)∧SetE T.coins_Set w' b mb []∧w.heap.size≤b∧w.heap.size≤mb∧Ext w w':=by
 refine s_coins_New rfl ?_
 unfold k_coins_New
 refine oy ?_
 repeat (first|refine go ?_|refine zg (fun _ _=>?_)|refine zi (fun _ _=>?_))
 refine st_makeMap (E:=ptK) (fv:=Cn.val) (fun mb w1 x1 hm hmb=>?_)
 repeat (first|refine go ?_|refine zg (fun _ _=>?_)|refine zi (fun _ _=>?_))
 refine st_box rfl rfl (fun b w2 x2 a2 r2 hb=>?_)
 repeat (first|refine go ?_|refine zg (fun _ _=>?_)|refine zi (fun _ _=>?_))
 exact x_ret rfl ⟨b,mb,rfl,⟨a2,hm.ext x2,Mon.nil⟩,Nat.le_trans x1.size hb,hmb,x1.trans x2⟩
theorem cget_spec {t:TypeId} {b mb:Nat} {m:List En} (p:Pt) (w:World) (h:SetE t w b mb m):K.Spec Tryz.prog F.coins_Set_Get [.pointer (some ⟨b,0,none⟩),p.val] w fun v w'=>v=.tuple #[(takeCoin m p).val,.bool (aget m p).isSome]∧Ext w w':=by
 have r:=h.row
 have hM:=h.2.1
 refine s_coins_Set_Get rfl ?_
 unfold k_coins_Set_Get
 refine oy ?_
 repeat' (first|(refine zD (d:=some 3) rfl rfl (fun b1 w1 x1 a1 (r1:Row w1 ⟨b1,0,none⟩ p.cs) hb1=>?_))|(refine zH (d:=some 4) (fun b2 w2 x2 a2 hb2=>?_);have s2:w.heap.size≤b2:=Nat.le_trans x1.size hb2)|(refine st_lookupOk (d:=some 17) (E:=ptK) (fv:=Cn.val) (k:=p) rfl rfl (MapE.ext (w:=w) (by exact fx) hM) rfl rfl (fun c hc=>?_) (fun hc=>?_))|(refine zH (d:=some 6) (fun b6 w6 x6 a6 hb6=>?_);have s6:w.heap.size≤b6:=Nat.le_trans (Ext.size (w:=w) (by exact fx)) hb6;have s26:w2.heap.size≤b6:=Nat.le_trans (Ext.size (w:=w2) (by exact fx)) hb6)|(first|refine go1 ?_|refine zg (fun _ _=>?_)|refine zi (fun _ _=>?_)))
 ·refine st_setN (w0:=w) (vs:=c.cs) (by exact fx) s6 a6 rfl rfl rfl rfl rfl (fun w7 x7 c7 a7 r7=>?_)
  have a2':=At.chg c7 (At.ext (w:=w2) (by exact fx) a2) (by have:=a2.lt;simp;omega)
  repeat (first|refine go1 ?_|refine zg (fun _ _=>?_)|refine zi (fun _ _=>?_))
  refine st_setN (w0:=w) (vs:=c.cs) (by exact fx) s2 a2' rfl rfl rfl rfl rfl (fun w9 x9 c9 a9 r9=>?_)
  repeat (first|refine go1 ?_|refine zg (fun _ _=>?_)|refine zi (fun _ _=>?_))
  exact x_ret (ret2 (rv_cell r9 rfl rfl) rv_tmp) ⟨by rw [takeCoin,hc];rfl,x9⟩
 ·refine st_setN (w0:=w) (vs:=cn0.cs) (by exact fx) s6 a6 rfl rfl rfl rfl rfl (fun w7 x7 c7 a7 r7=>?_)
  have a2':=At.chg c7 (At.ext (w:=w2) (by exact fx) a2) (by have:=a2.lt;simp;omega)
  repeat (first|refine go1 ?_|refine zg (fun _ _=>?_)|refine zi (fun _ _=>?_))
  refine st_setN (w0:=w) (vs:=cn0.cs) (by exact fx) s2 a2' rfl rfl rfl rfl rfl (fun w9 x9 c9 a9 r9=>?_)
  repeat (first|refine go1 ?_|refine zg (fun _ _=>?_)|refine zi (fun _ _=>?_))
  exact x_ret (ret2 (rv_cell r9 rfl rfl) rv_tmp) ⟨by rw [takeCoin,hc];rfl,x9⟩
set_option maxHeartbeats 1000000 in
theorem cput_spec {t:TypeId} {b mb:Nat} {m:List En} (p:Pt) (c:Cn) (w:World) (h:SetE t w b mb m):K.Spec Tryz.prog F.coins_Set_Put [.pointer (some ⟨b,0,none⟩),p.val,c.val] w fun v w'=>
  v=.int .i64 (putCode m p c)∧SetE t w' b mb (putMap m p c)∧Chg [b,mb] w w':=by
 have r:=h.row
 have hne:=h.ne
 have hb:=h.1.lt
 have hmb:=h.2.1.lt
 have hM:=h.2.1
 have fail:∀{w':World} {n:Int},Ext w w'→n≠0→putCode m p c=n→Value.int .i64 n=.int .i64 (putCode m p c)∧SetE t w' b mb (putMap m p c)∧Chg [b,mb] w w':=by
  intro w' n x hn hc
  refine ⟨by rw [hc],?_,Chg.mono x (by simp)⟩
  rw [putMap,if_neg (by rw [hc];exact hn)];exact h.ext x
 refine s_coins_Set_Put rfl ?_
 unfold k_coins_Set_Put
 refine oy ?_
 repeat' (first|(refine zD (d:=some 4) rfl rfl (fun b1 w1 x1 a1 (r1:Row w1 ⟨b1,0,none⟩ p.cs) hb1=>?_))|(refine zD (d:=some 5) rfl rfl (fun b2 w2 x2 a2 (r2:Row w2 ⟨b2,0,none⟩ c.cs) hb2=>?_))|(refine zC (d:=some 17) rfl (cformed_spec p c _) ?_;rintro _ w3 ⟨rfl,x3⟩)|(refine c_condB (x:=.tmp 14) rfl (fun hf=>?_) (fun hf=>?_))|(refine st_lookupOk (d:=some 25) (E:=ptK) (fv:=Cn.val) (k:=p) rfl rfl (MapE.ext (w:=w) (by exact fx) hM) rfl rfl (fun d hd=>?_) (fun hd=>?_))|(refine zH (d:=some 7) (fun b6 w6 x6 a6 hb6=>?_);have s6:w.heap.size≤b6:=Nat.le_trans (Ext.size (w:=w) (by exact fx)) hb6;have s26:w2.heap.size≤b6:=Nat.le_trans (Ext.size (w:=w2) (by exact fx)) hb6)|(refine st_setN (w0:=w) (n:=3) (vs:=d.cs) (by exact fx) s6 a6 rfl rfl rfl rfl rfl (fun w7 x7 c7 a7 r7=>?_))|(refine st_setN (w0:=w) (n:=3) (vs:=cn0.cs) (by exact fx) s6 a6 rfl rfl rfl rfl rfl (fun w7 x7 c7 a7 r7=>?_);replace r1:Row w7 ⟨b1,0,none⟩ p.cs:=Row.chg c7 (Row.ext (w:=w1) (by exact fx) r1) (by have:=a1.lt;have:=x2.size;simp;omega);replace r2:Row w7 ⟨b2,0,none⟩ c.cs:=Row.chg c7 (Row.ext (w:=w2) (by exact fx) r2) (by have:=a2.lt;simp;omega);have s01:=x1.size;clear x1 x2 x3 x6 c7 a6)|(refine zC (d:=some 37) rfl (add_spec (tot m) c.v _) ?_;rintro _ w8 ⟨rfl,rfl⟩)|(refine zN (p:=(if addOk (tot m) c.v=true then (0:Int) else 3)=0) rfl (fun he=>?_) (fun he=>?_))|(refine st_both ?_ ?_)|(first|refine go1 ?_|refine zg (fun _ _=>?_)|refine zi (fun _ _=>?_)))
 ·exact x_ret rfl (fail (by exact fx) (by decide) (putCode2 (by simpa using hf)))
 ·exact x_ret rfl (fail x7 (by decide) (putCode7 (by simpa using hf) hd))
 ·have hP:=putCode0 (by simpa using hf) hd h.2.2
  have ho:addOk (tot m) c.v=false:=by
   cases hx:addOk (tot m) c.v
   ·rfl
   ·rw [hx] at he;exact absurd rfl he
  rw [ho] at hP
  refine x_ret (v:=.int .i64 3) ?_ (fail (by exact fx) (by decide) hP)
  rw [ho];rfl
 all_goals
  have ho:addOk (tot m) c.v=true:=by
   cases hx:addOk (tot m) c.v
   ·rw [hx] at he;exact absurd he (by decide)
   ·rfl
  have hP:putCode m p c=0:=by rw [putCode0 (by simpa using hf) hd h.2.2,ho];rfl
  have hn:∀{w' w'':World},At w' b (.cells ([Value.map (some mb),.int .i64 (tot m)].set 1 (.int .i64 (if addOk (tot m) c.v=true then tot m+c.v else 0))).toArray t (0,0))→MapE ptK Cn.val w' mb (aset m p c)→Ext w' w''→SetE t w'' b mb (putMap m p c):=by
   intro w' w'' ha hM x
   rw [putMap,if_pos hP]
   rw [aset_none hd] at hM
   refine ⟨?_,hM.ext x,h.2.2.put hP⟩
   have:=ha.ext x
   rw [ho] at this
   have e:tot (m++ [(p,c)])=tot m+c.v:=by simp
   rw [e];exact this
  rename_i x78 w9 x89
  have x79:Ext w7 w9:=x78.trans x89
  have x09:Ext w w9:=x7.trans x79
  have h9:=h.ext x09
  have r19:=r1.ext x79
  have r29:=r2.ext x79
  have r9:=h9.row
  clear x7 x78 x89 x79 r1 r2 r r7 a7
  repeat' (first|(refine st_mapEntry (d:=some 51) (E:=ptK) (fv:=Cn.val) (k:=p) rfl rfl h9.2.1 rfl rfl (fun st w10 c10 hM10=>?_);have r210:Row w10 ⟨b2,0,none⟩ c.cs:=r29.chg c10 (by simp;omega);have a10:=h9.1.chg c10 (by simp;omega))|(refine st_entryStore (E:=ptK) (fv:=Cn.val) (k:=p) (v:=c) rfl rfl rfl hM10 (fun w11 c11 hM11=>?_);have a11:=a10.chg c11 (by simp;omega))|(first|refine go1 ?_|refine zg (fun _ _=>?_)|refine zi (fun _ _=>?_)))
  refine st_store (b:=b) (o:=1) rfl rfl rfl a11 (by simp) (fun w12 c12 a12=>?_)
  repeat (first|refine go1 ?_|refine zg (fun _ _=>?_)|refine zi (fun _ _=>?_))
  refine x_ret rfl ⟨by rw [hP];rfl,hn a12 (hM11.chg c12 (by simp;omega)) (Ext.refl _),?_⟩
  refine (x09.chg (c10.trans (c11.trans c12))).mono ?_
  intro y hy
  simp at hy ⊢
  omega
end Go.Proofs.YtfebcajheojodaaGreatDoor
end
section
namespace Go.Proofs.YtfebcajheojodaaGreatDoor
open Go Go.K
section
variable {P:Program} {d:Option Tmp} {r:KR} {K:Env→World→Prop} {ρ:Env} {w:World}
theorem st_invoke {x:Operand} {name:String} {args:List Operand} {t:TypeId} {u rv:Value} {fn:FuncId} {vs:List Value} {R:Value→World→Prop} (hx:ev ρ x=.iface t u) (hm:methodOf P t u name=some (fn,rv)) (hb:hasBody P fn=true) (ha:rv::args.map (ev ρ)=vs)
  (h:Go.K.Spec P fn vs w R) (k:∀v w',R v w'→regK P r K (put ρ d v) w'):regK P (.cons ⟨d,.invoke x name args,none⟩ r) K ρ w:=
 st_wp ⟨t,u,fn,rv,hx,hm,hb,by subst ha;exact h.mono fun e w' ⟨v,hv,hR⟩=>⟨v,hv,k v w' hR⟩⟩
theorem st_nilM {f:TypeId→Value→String→Bool} {x:Operand} {name:String} {t:TypeId} {u:Value} (hx:ev ρ x=.func (.method name) #[.iface t u] #[]) (hm:f t u name=true) (k:regK P r K (put ρ d (.func (.method name) #[.iface t u] #[])) w):regK P (.cons ⟨d,.nilM f x,none⟩ r) K ρ w:=
 st_fix rfl (by simp [KOp.fix,hx,hm]) k
end
theorem mo_of {t:TypeId} {u:Value} {s:String} (h:metOk Tryz.prog t u s=true):mo t u s=true:=by unfold mo;exact h
abbrev errno (c:Int):Value:=.iface T.api_Errno (.int .i64 c)
def ErrR (w:World):Nat→Value→Int→Int→Prop
 |0,v,c,a=>a= -1∧(c=0∧v=.nilIface∨c≠0∧v=errno c)
 |d+1,v,c,a=>ErrR w d v c a∨c≠0∧0≤a∧∃b u a',v=.iface T.P_api_Fault (.pointer (some ⟨b,0,none⟩))∧At w b (.cells [.int .i64 a,u].toArray T.api_Fault (0,0))∧ErrR w d u c a'
theorem ErrR.ext {w w':World} (x:Ext w w'):∀{d:Nat} {v:Value} {c a:Int},ErrR w d v c a→ErrR w' d v c a
 |0,_,_,_,h=>h
 |_+1,_,_,_,.inl h=>.inl (ErrR.ext x h)
 |_+1,_,_,_,.inr ⟨h1,h2,b,u,a',h3,h4,h5⟩=>.inr ⟨h1,h2,b,u,a',h3,h4.ext x,ErrR.ext x h5⟩
theorem ErrR.none_ (w:World) (d:Nat):ErrR w d .nilIface 0 (-1):=by
 induction d with
 |zero=>exact ⟨rfl,.inl ⟨rfl,rfl⟩⟩
 |succ d ih=>exact .inl ih
theorem ErrR.num (w:World) (d:Nat) {c:Int} (h:c≠0):ErrR w d (errno c) c (-1):=by
 induction d with
 |zero=>exact ⟨rfl,.inr ⟨h,rfl⟩⟩
 |succ d ih=>exact .inl ih
theorem ErrR.nil_iff {w:World}:∀{d:Nat} {v:Value} {c a:Int},ErrR w d v c a→(c=0→v=.nilIface∧a= -1)∧(c≠0→∃t u,v=.iface t u)
 |0,_,_,_,⟨h1,h2⟩=>by
  rcases h2 with ⟨h2,h3⟩|⟨h2,h3⟩
  ·exact ⟨fun _=>⟨h3,h1⟩,fun h=>absurd h2 h⟩
  ·exact ⟨fun h=>absurd h h2,fun _=>⟨_,_,h3⟩⟩
 |_+1,_,_,_,.inl h=>ErrR.nil_iff h
 |_+1,_,_,_,.inr ⟨h1,_,_,_,_,h3,_⟩=>⟨fun h=>absurd h h1,fun _=>⟨_,_,h3⟩⟩
def ViewR (w:World) (v:Value) (f:Pt→Option Cn):Prop:=(∃t u,v=.iface t u∧∀p:Pt,is32 p.i→∀w1,Ext w w1→∃fn rv,metOk Tryz.prog t u "Get" =true∧methodOf Tryz.prog t u "Get" =some (fn,rv)∧hasBody Tryz.prog fn=true∧
  K.Spec Tryz.prog fn [rv,.agg p.cs.toArray] w1 fun r w2=>∃c:Cn,r=.tuple #[.agg c.cs.toArray,.bool (f p).isSome]∧(f p).getD cn0=c∧Ext w1 w2)∧∀p c,f p=some c→c.s.size≤1000000
theorem ViewR.ext {w w':World} {v:Value} {f:Pt→Option Cn} (h:ViewR w v f) (x:Ext w w'):ViewR w' v f:=by
 obtain ⟨⟨t,u,e,h⟩,h2⟩:=h
 exact ⟨⟨t,u,e,fun p hp w1 x1=>h p hp w1 (x.trans x1)⟩,h2⟩
theorem ViewR.of_set {w:World} {b mb:Nat} {m:List En} (h:SetE T.coins_Set w b mb m) (hs:∀e∈m,e.2.s.size≤1000000):ViewR w (.iface T.P_coins_Set (.pointer (some ⟨b,0,none⟩))) (aget m):=by
 refine ⟨⟨_,_,rfl,fun p hp w1 x1=>⟨F.coins_Set_Get,.pointer (some ⟨b,0,none⟩),by kernel_rfl,by kernel_rfl,by kernel_rfl,?_⟩⟩,fun p c hc=>hs _ (aget_mem hc)⟩
 have:=cget_spec p w1 (h.ext x1)
 unfold K.Spec at this ⊢
 exact this.mono fun e w2 ⟨v,e1,e2,x2⟩=>⟨v,e1,takeCoin m p,e2,rfl,x2⟩
end Go.Proofs.YtfebcajheojodaaGreatDoor
end
section
namespace Go.Proofs.YtfebcajheojodaaGreatDoor
open Go Go.K
attribute [local irreducible] regK codeK retK KOp.wp K.Spec u32 leS vnS str zero32 sha2 encT idT sizeT checkT grantB
abbrev overI (v g:Value) (h:Int):Value:=.iface T.pool_over (.agg #[v,g,.int .i64 h])
theorem pover_spec (vt:TypeId) (vu:Value) (o:Option Addr) (h:Int) (w:World):K.Spec Tryz.prog F.pool_Over [.pointer o,.iface vt vu,.int .i64 h] w fun r w'=>r=overI (.iface vt vu) (.pointer o) h∧Ext w w':=by
 refine s_pool_Over rfl ?_
 unfold k_pool_Over
 refine oy ?_
 repeat' (first|(refine st_build (d:=some 10) (cs:= [.iface vt vu,.pointer o,.int .i64 h]) rfl ?_)|(first|refine go1 ?_|refine zg (fun _ _=>?_)|refine zi (fun _ _=>?_)))
 exact x_ret rfl ⟨rfl,Ext.refl _⟩
theorem out_size {l:List Ent} (hE:∀x∈l,EntOk x) {h:Int} {p:Pt} {c:Cn} (hc:outAt l h p=some c):c.s.size≤1000000:=by
 unfold outAt at hc
 split at hc
 ·rename_i hh
  obtain ⟨o,ho,rfl⟩:=Option.map_eq_some_iff.1 hc
  have h1:hasE l p.s=true:=by
   have:=hh
   simp only [outHas,Bool.and_eq_true] at this
   exact this.1
  obtain ⟨y,hy,e⟩:=List.any_eq_true.1 h1
  cases hf:l.find? fun x=>decide (x.id=p.s) with
  |none=>exact absurd e (List.find?_eq_none.1 hf y hy)
  |some z=>
   obtain ⟨_,e2,e3,_⟩:=has_some hf
   have hck:=(hE z e3).check
   have hz:=sz_of_check (chk_sm hck) hck
   rw [e2] at ho
   have:=hz.scr o (List.mem_of_getElem? ho)
   show o.s.size≤1000000
   omega
 ·cases hc
abbrev cZ:List Value:= [.int .i64 0,.string ⟨#[]⟩,.int .i64 0]
set_option maxHeartbeats 1000000 in
theorem over_view {w:World} {v:Value} {f:Pt→Option Cn} {g:Nat} {M:List Nat} {l:List Ent} (h:Int) (hV:ViewR w v f) (hG:GrR w g M l) (hM:∀b∈M,b<w.heap.size):ViewR w (overI v (.pointer (some ⟨g,0,none⟩)) h) (overV f l h):=by
 have hE:=hG.ok
 obtain ⟨⟨t,u,rfl,hv⟩,hz⟩:=hV
 refine ⟨⟨_,_,rfl,fun p hp w1 x1=>⟨F.pool_over_Get,.agg #[.iface t u,.pointer (some ⟨g,0,none⟩),.int .i64 h],by kernel_rfl,by kernel_rfl,by kernel_rfl,?_⟩⟩,fun p c hc=>?_⟩
 ·replace hG:=hG.ext x1
  replace hM:∀b∈M,b<w1.heap.size:=fun b hb=>Nat.lt_of_lt_of_le (hM b hb) x1.size
  refine s_pool_over_Get rfl ?_
  unfold k_pool_over_Get
  refine oy ?_
  repeat (first|(refine zD (d:=some 2) (cs:= [.iface t u,.pointer (some ⟨g,0,none⟩),.int .i64 h]) rfl rfl (fun b2 w2 x2 a2 (r2:Row w2 ⟨b2,0,none⟩ [.iface t u,.pointer (some ⟨g,0,none⟩),.int .i64 h]) hb2=>?_))|(refine zD (d:=some 3) (cs:=p.cs) rfl rfl (fun b3 w3 x3 a3 (r3:Row w3 ⟨b3,0,none⟩ p.cs) hb3=>?_))|(refine zH (d:=some 4) (fun b4 w4 x4 a4 hb4=>?_);have x14:Unit→Ext w1 w4:=(fun _=>by exact fx);have h14:w1.heap.size≤b4:=Nat.le_trans (Ext.size (show Ext w1 w3 by exact fx)) hb4)|(first|refine go1 ?_|refine zg (fun _ _=>?_)|refine zi (fun _ _=>?_)))
  obtain ⟨fn,rv,_,hm,hb,hS⟩:=hv p hp w4 (x1.trans (x14 ()))
  refine st_invoke (d:=some 17) rfl hm hb rfl hS ?_
  rintro _ w6 ⟨c,rfl,hc,x6⟩
  obtain ⟨bb,hbb⟩:∃bb,(f p).isSome=bb:=⟨_,rfl⟩
  rw [hbb]
  cases bb with
  |true=>
   obtain ⟨d,hf⟩:=Option.isSome_iff_exists.1 hbb
   have e:overV f l h p=some d:=by unfold overV;rw [hf];rfl
   have ec:d=c:=by rw [hf] at hc;exact hc
   subst ec
   rw [e]
   repeat (first|refine go1 ?_|refine zg (fun _ _=>?_)|refine zi (fun _ _=>?_))
   refine zE (d':=6) (fun _=>rfl) rfl rfl rfl (fun b7 w7 x7 a7 (r7:Row w7 ⟨b7,0,none⟩ d.cs) hb7=>?_)
   repeat (first|refine go1 ?_|refine zg (fun _ _=>?_)|refine zi (fun _ _=>?_))
   have a7':At w7 b4 _:=At.ext x7 (At.ext x6 a4)
   have x17:Ext w1 w7:=(x14 ()).trans (x6.trans x7)
   refine st_setN (w0:=w1) (vs:=d.cs) x17 h14 a7' rfl rfl rfl rfl rfl (fun w9 x9 c9 a9 r9=>?_)
   repeat (first|refine go1 ?_|refine zg (fun _ _=>?_)|refine zi (fun _ _=>?_))
   exact x_ret (ret2 (rv_cell r9 rfl rfl) rv_tmp) ⟨_,rfl,rfl,x9⟩
  |false=>
   have hf:f p=none:=by simpa using hbb
   cases ho:outHas l p with
   |false=>
    have e:overV f l h p=none:=by unfold overV outAt;rw [ho,hf];rfl
    rw [e]
    repeat' (first|(refine zC (d:=some 26) rfl (out_spec (M:=M) (l:=l) p hp _ (hG.ext (by exact fx)) (fun b hb=>Nat.lt_of_lt_of_le (hM b hb) (Ext.size (by exact fx)))) ?_;rintro _ w5 ⟨o,rfl,ho5,x5⟩;rw [ho])|(refine zE (d':=6) (fun _=>rfl) rfl rfl rfl (fun b7 w7 x7 a7 (r7:Row w7 ⟨b7,0,none⟩ c.cs) hb7=>?_))|(refine zE (d':=8) (fun _=>rfl) rfl rfl rfl (fun b8 w8 x8 a8 (r8:Row w8 ⟨b8,0,none⟩ (outCs o)) hb8=>?_))|(refine st_build (d:=some 31) (cs:=cZ) rfl ?_)|(first|refine go1 ?_|refine zg (fun _ _=>?_)|refine zi (fun _ _=>?_)))
    refine st_setN (w0:=w1) (vs:=cZ) ((x14 ()).trans (x6.trans (x7.trans (x5.trans x8)))) h14 (At.ext x8 (At.ext x5 (At.ext x7 (At.ext x6 a4)))) rfl rfl rfl rfl rfl (fun w9 x9 c9 a9 r9=>?_)
    repeat (first|refine go1 ?_|refine zg (fun _ _=>?_)|refine zi (fun _ _=>?_))
    exact x_ret (ret2 (rv_cell r9 rfl rfl) rv_tmp) ⟨cn0,rfl,rfl,x9⟩
   |true=>
    repeat' (first|(refine zC (d:=some 26) rfl (out_spec (M:=M) (l:=l) p hp _ (hG.ext (by exact fx)) (fun b hb=>Nat.lt_of_lt_of_le (hM b hb) (Ext.size (by exact fx)))) ?_;rintro _ w5 ⟨o,rfl,ho5,x5⟩;rw [ho];have ho6:=ho5 ho)|(refine zE (d':=6) (fun _=>rfl) rfl rfl rfl (fun b7 w7 x7 a7 (r7:Row w7 ⟨b7,0,none⟩ c.cs) hb7=>?_))|(refine zE (d':=8) (fun _=>rfl) rfl rfl rfl (fun b8 w8 x8 a8 (r8:Row w8 ⟨b8,0,none⟩ (outCs o)) hb8=>?_))|(refine st_build (d:=some 35) (cs:=Cn.cs ⟨o.v,o.s,h⟩) rfl ?_)|(first|refine go1 ?_|refine zg (fun _ _=>?_)|refine zi (fun _ _=>?_)))
    refine st_setN (w0:=w1) (vs:=Cn.cs ⟨o.v,o.s,h⟩) ((x14 ()).trans (x6.trans (x7.trans (x5.trans x8)))) h14 (At.ext x8 (At.ext x5 (At.ext x7 (At.ext x6 a4)))) rfl rfl rfl rfl rfl (fun w9 x9 c9 a9 r9=>?_)
    repeat (first|refine go1 ?_|refine zg (fun _ _=>?_)|refine zi (fun _ _=>?_))
    have e:overV f l h p=some ⟨o.v,o.s,h⟩:=by
     unfold overV outAt
     rw [hf,if_pos ho]
     show Option.map _ _=_
     rw [show (getE l p.s).tx.outs[p.i.toNat]? =some o from ho6];rfl
    rw [e]
    exact x_ret (ret2 (rv_cell r9 rfl rfl) rv_tmp) ⟨_,rfl,rfl,x9⟩
 ·unfold overV at hc
  cases hf:f p with
  |some d2=>rw [hf] at hc;cases hc;exact hz p _ hf
  |none=>rw [hf] at hc;exact out_size hE hc
end Go.Proofs.YtfebcajheojodaaGreatDoor
end
section
namespace Go.Proofs.YtfebcajheojodaaGreatDoor
open Go Go.K
attribute [local irreducible] regK codeK retK KOp.wp K.Spec u32 leS vnS str zero32
def dsizeE (y:TOut):Bool:=decide ((y.s.size:Int)≤40)
theorem dsize_spec (y:TOut) (hs:y.s.size≤1000000) (w:World):K.Spec Tryz.prog F.dust_Size [.agg (outCs y).toArray] w fun r w'=>r=.tuple #[.int .i64 (if dsizeE y then (outSz y:Nat) else 0),.int .i64 (if dsizeE y then 0 else 20)]∧Ext w w':=by
 have h9:=vnS_size y.s.size
 refine s_dust_Size rfl ?_
 unfold k_dust_Size
 refine oy ?_
 repeat' (first|(refine zD rfl rfl (fun bp wp xp ap (rp:Row wp ⟨bp,0,none⟩ (outCs y)) hp0=>?_))|(refine zL (p:=((y.s.size:Nat):Int)>40) rfl (fun h=>?_) (fun h=>?_))|(refine st_fixV (d:=some 11) (.int .u64 (y.s.size:Nat)) rfl (congrArg (fun n=>some (Value.int .u64 n)) (u64_wrap (by omega) (by omega))) ?_)|(refine zC (d:=some 12) rfl (vput_spec y.s.size (by omega) _) ?_;rintro _ w3 ⟨rfl,x3⟩)|(first|refine go1 ?_|refine zg (fun _ _=>?_)|refine zi (fun _ _=>?_)))
 ·have e:dsizeE y=false:=decide_eq_false (by omega)
  rw [e]
  exact x_ret rfl ⟨rfl,by exact fx⟩
 ·have e:dsizeE y=true:=decide_eq_true (by omega)
  rw [e]
  exact x_ret rfl ⟨congrArg (fun z=>Value.tuple #[.int .i64 z,.int .i64 0]) (by simp only [outSz,if_true];omega),by exact fx⟩
theorem dleast_spec (y:TOut) (hs:y.s.size≤1000000) (w:World):K.Spec Tryz.prog F.dust_Least [.agg (outCs y).toArray] w fun r w'=>r=.tuple #[.int .i64 (if dsizeE y then ((3000*(outSz y+67)+999) / 1000:Nat) else 0),.int .i64 (if dsizeE y then 0 else 20)]∧Ext w w':=by
 have h9:=vnS_size y.s.size
 refine s_dust_Least rfl ?_
 unfold k_dust_Least
 refine oy ?_
 cases he:dsizeE y with
 |false=>
  repeat' (first|(refine zD rfl rfl (fun bp wp xp ap (rp:Row wp ⟨bp,0,none⟩ (outCs y)) hp0=>?_))|(refine zC (d:=some 8) rfl (dsize_spec y hs _) ?_;rintro _ w3 ⟨rfl,x3⟩;rw [he])|(first|refine go1 ?_|refine zg (fun _ _=>?_)|refine zi (fun _ _=>?_)))
  exact x_ret rfl ⟨rfl,by exact fx⟩
 |true=>
  have h40:y.s.size≤40:=by have:=of_decide_eq_true he;omega
  have hz:outSz y≤1000:=by unfold outSz;omega
  repeat' (first|(refine zD rfl rfl (fun bp wp xp ap (rp:Row wp ⟨bp,0,none⟩ (outCs y)) hp0=>?_))|(refine zC (d:=some 8) rfl (dsize_spec y hs _) ?_;rintro _ w3 ⟨rfl,x3⟩;rw [he])|(refine zC (d:=some 16) (congrArg (fun z=> [Value.int .i64 3000,Value.int .i64 z]) (show ((outSz y:Nat):Int)+67=((outSz y+67:Nat):Int) by omega)) (afee_spec 3000 (outSz y+67) (by decide) (by omega) _) ?_;rintro _ w4 ⟨rfl,x4⟩)|(first|refine go1 ?_|refine zg (fun _ _=>?_)|refine zi (fun _ _=>?_)))
  exact x_ret rfl ⟨rfl,by exact fx⟩
theorem dust_hb:hasBody Tryz.prog F.dust_Dust=true:=by kernel_rfl
theorem dust_spec (y:TOut) (hs:y.s.size≤1000000) (w:World):K.Spec Tryz.prog F.dust_Dust [.agg (outCs y).toArray] w fun r w'=>r=.bool (dustB y)∧Ext w w':=by
 refine s_dust_Dust rfl ?_
 unfold k_dust_Dust
 refine oy ?_
 cases he:dsizeE y with
 |false=>
  have e:dustB y=false:=by unfold dustB;rw [show decide ((y.s.size:Int)≤40)=false from he];rfl
  rw [e]
  repeat' (first|(refine zD rfl rfl (fun bp wp xp ap (rp:Row wp ⟨bp,0,none⟩ (outCs y)) hp0=>?_))|(refine zC (d:=some 7) rfl (dleast_spec y hs _) ?_;rintro _ w3 ⟨rfl,x3⟩;rw [he])|(first|refine go1 ?_|refine zg (fun _ _=>?_)|refine zi (fun _ _=>?_)))
  exact x_ret rfl ⟨rfl,by exact fx⟩
 |true=>
  have e:dustB y=decide (y.v<(((3000*(outSz y+67)+999) / 1000:Nat):Int)):=by unfold dustB;rw [show decide ((y.s.size:Int)≤40)=true from he];rfl
  rw [e]
  repeat' (first|(refine zD rfl rfl (fun bp wp xp ap (rp:Row wp ⟨bp,0,none⟩ (outCs y)) hp0=>?_))|(refine zC (d:=some 7) rfl (dleast_spec y hs _) ?_;rintro _ w3 ⟨rfl,x3⟩;rw [he])|(first|refine go1 ?_|refine zg (fun _ _=>?_)|refine zi (fun _ _=>?_)))
  exact x_ret rfl ⟨rfl,by exact fx⟩
theorem first_spec {M:List Nat} {cs:List Value} {t:Tx} (w:World) (ht:txR.rel M w cs t) (hs:t.Sm) (hq:∀y∈t.outs,y.s.size≤1000000):K.Spec Tryz.prog F.dust_First [.agg cs.toArray] w fun r w'=>r=.tuple #[.int .i64 (max (dustI t) 0),.bool (decide (dustI t≥0))]∧Ext w w':=by
 obtain ⟨iv,ov,rfl,hi,ho,hv,hl⟩:=ht
 have g:=hs.outs
 have tl:∀w1,Ext w w1→Tells F.dust_Dust [] outR (fun cs=>.agg cs.toArray) M w1 t.outs dustB:=fun w1 x1 y hy w' cs x2 hc=>by
  obtain ⟨rfl,_⟩:=hc
  exact dust_spec y (hq y hy) w'
 refine s_dust_First rfl ?_
 unfold k_dust_First
 refine oy ?_
 repeat' (first|(refine zD rfl rfl (fun bp wp xp ap (rp:Row wp ⟨bp,0,none⟩ (txCs t iv ov)) hp0=>?_))|(refine zC (d:=some 7) rfl (idxOut_spec (l:=t.outs) (M:=M) (g:=F.dust_Dust) (capl:= []) _ dust_hb (SlR.ext ho (by exact fx)) (by omega) (tl _ (by exact fx))) ?_;rintro _ w2 ⟨rfl,x2⟩)|(refine st_max (d:=some 9) (a:=dustI t) (b:=0) rfl rfl ?_)|(first|refine go1 ?_|refine zg (fun _ _=>?_)|refine zi (fun _ _=>?_)))
 exact x_ret rfl ⟨rfl,by exact fx⟩
theorem asub_spec (a b:Int) (ha:goodB a=true) (hb:goodB b=true) (h:b≤a) (w:World):K.Spec Tryz.prog F.amount_Sub [.int .i64 a,.int .i64 b] w fun r w'=>r=.tuple #[.int .i64 (a - b),.int .i64 0]∧Ext w w':=by
 have h1:=(goodB_iff a).1 ha
 have h2:=(goodB_iff b).1 hb
 refine s_amount_Sub rfl ?_
 unfold k_amount_Sub
 refine oy ?_
 repeat' (first|(refine zF (d:=some 7) (v:=.bool true) ((qG _).trans (by rw [ha])) ?_)|(refine zF (d:=some 11) (v:=.bool true) ((qG _).trans (by rw [hb])) ?_)|(refine zL (p:=b>a) rfl (fun h=>absurd h (by omega)) (fun _=>?_))|(first|refine go1 ?_|refine zg (fun _ _=>?_)|refine zi (fun _ _=>?_)))
 exact x_ret rfl ⟨rfl,Ext.refl _⟩
end Go.Proofs.YtfebcajheojodaaGreatDoor
end
section
namespace Go.Proofs.YtfebcajheojodaaGreatDoor
open Go Go.K
attribute [local irreducible] regK codeK retK KOp.wp K.Spec u32 leS vnS str zero32 numAt byteAt
theorem byteAt_get {s:ByteArray} {i:Nat} (h:i<s.size):byteAt s i=s[i].toNat:=by
 unfold byteAt
 rw [List.getD_eq_getElem?_getD,List.getElem?_eq_getElem (by simpa using h)]
 rfl
theorem shl8 {n:Nat} (h:n<256^7):binVal .shl (.int .u64 (n:Nat)) (.int .u64 8)=some (.int .u64 ((n*256:Nat):Int)):=by
 simp only [binVal,isShift,if_true]
 rw [if_neg (by decide)]
 show some (Value.int .u64 (IntKind.u64.wrap ((n:Int)*256)))=_
 rw [u64_wrap (by omega) (by omega)];rfl
theorem or8 {n b:Nat} (h:n<256^7) (hb:b<256):binVal .or (.int .u64 ((n*256:Nat):Int)) (.int .u64 (b:Nat))=some (.int .u64 ((b+256*n:Nat):Int)):=by
 simp only [binVal,isShift,Bool.false_eq_true,if_false,if_true,intBin,IntKind.bits]
 have e:(BitVec.ofInt 64 ((n*256:Nat):Int)|||BitVec.ofInt 64 (b:Nat)).toNat=b+256*n:=by
  rw [BitVec.toNat_or,BitVec.toNat_ofInt,BitVec.toNat_ofInt]
  rw [show (((n*256:Nat):Int)%((2^64:Nat):Int)).toNat=n<<<8 by rw [Nat.shiftLeft_eq];omega,show (((b:Nat):Int)%((2^64:Nat):Int)).toNat=b by omega]
  rw [←Nat.shiftLeft_add_eq_or_of_lt (by omega:b<2^8),Nat.shiftLeft_eq];omega
 exact (congrArg (fun x:Nat=>some (Value.int .u64 (IntKind.u64.wrap (x:Int)))) e).trans (congrArg (fun x=>some (Value.int .u64 x)) (u64_wrap (by omega) (by omega)))
set_option maxHeartbeats 400000 in
theorem oget_spec (s:ByteArray) (a k:Nat) (hk:k=1∨k=2∨k=4∨k=8) (hs:a+k≤s.size) (hm:s.size≤100000000) (w:World):K.Spec Tryz.prog F.octet_Get [.string s,.int .i64 (a:Nat),.int .i64 (k:Nat)] w fun r w'=>r=.tuple #[.int .u64 (numAt s a k:Nat),.bool true]∧Ext w w':=by
 have hk8:k≤8:=by omega
 refine s_octet_Get rfl ?_
 unfold k_octet_Get
 refine oy ?_
 repeat' (first|(first|refine go1 ?_|refine zg (fun _ _=>?_)|refine zi (fun _ _=>?_))|(refine zC (d:=some 11) rfl (known_spec k hk _) ?_;rintro _ w1 ⟨rfl,x1⟩)|(refine zJ (p:=(a:Int)<0) rfl (fun h=>absurd h (by omega)) (fun _=>?_))|(refine zL (p:=(a:Int)>(s.size:Int) - (k:Int)) rfl (fun h=>absurd h (by omega)) (fun _=>?_))|(refine c_loopV (fun (j:Nat) w'=>Ext w w'∧j≤k) (fun j=> [(0,.string s),(1,.int .i64 (a:Nat)),(8,.int .u64 (numAt s (a+k - j) j:Nat)),(9,.int .i64 ((a:Int)+(k:Int) - 1 - (j:Int)))]) (fun j=>k - j) 0 ⟨rfl,rfl,(by unfold numAt;rfl),congrArg (Value.int .i64) (by omega),trivial⟩ ⟨x1,by omega⟩ ?_;rintro j ρ w3 ⟨x3,hj⟩))
 refine zL (p:=(a:Int)+(k:Int) - 1 - (j:Int)≥(a:Int)) rfl (fun h=>?_) (fun h=>?_)
 ·have hjk:j<k:=by omega
  have hlt:=numAt_lt s j (a+k - j)
  have hp:256^j≤256^7:=Nat.pow_le_pow_right (by decide) (by omega)
  have hn7:numAt s (a+k - j) j<256^7:=Nat.lt_of_lt_of_le hlt hp
  have hi:a+k - 1 - j<s.size:=by omega
  have hb:=s[a+k - 1 - j].toNat_lt
  have e:numAt s (a+k - (j+1)) (j+1)=s[a+k - 1 - j].toNat+256*numAt s (a+k - j) j:=by
   conv=>lhs;unfold numAt
   rw [show a+k - (j+1)=a+k - 1 - j by omega,byteAt_get hi,show a+k - 1 - j+1=a+k - j by omega]
  generalize hN:numAt s (a+k - j) j=n at hn7 e hlt ⊢
  generalize hB:s[a+k - 1 - j].toNat=b at hb e
  have f35:=shl8 hn7
  have f40:=or8 hn7 hb
  repeat (first|(refine st_fixV (d:=some 35) (.int .u64 ((n*256:Nat):Int)) rfl f35 ?_)|(refine st_idxS (d:=some 38) (k:=.i64) (n:=a+k - 1 - j) rfl (congrArg (Value.int .i64) (by omega)) hi ?_;rw [hB])|(refine st_fixV (d:=some 39) (.int .u64 (b:Nat)) rfl (congrArg (fun n=>some (Value.int .u64 n)) (u64_wrap (by omega) (by omega))) ?_)|(refine st_fixV (d:=some 40) (.int .u64 ((b+256*n:Nat):Int)) rfl f40 ?_)|(first|refine go1 ?_|refine zg (fun _ _=>?_)|refine zi (fun _ _=>?_)))
  exact ⟨j+1,⟨rfl,rfl,congrArg (fun n:Nat=>Value.int .u64 n) e.symm,congrArg (Value.int .i64) (by omega),trivial⟩,⟨x3,by omega⟩,by omega⟩
 ·have e:j=k:=by omega
  subst e
  repeat (first|refine go1 ?_|refine zg (fun _ _=>?_)|refine zi (fun _ _=>?_))
  exact x_ret rfl ⟨congrArg (fun n:Nat=>Value.tuple #[.int .u64 (n:Int),.bool true]) (congrArg (fun z=>numAt s z j) (show a+j - j=a by omega)),x3⟩
theorem number_spec (s:ByteArray) (a k:Nat) (hk:k=1∨k=2∨k=4∨k=8) (hs:a+k≤s.size) (hm:s.size≤100000000) (w:World):K.Spec Tryz.prog F.lock_number [.string s,.int .i64 (a:Nat),.int .i64 (k:Nat)] w fun r w'=>r=.int .u64 (numAt s a k:Nat)∧Ext w w':=by
 refine s_lock_number rfl ?_
 unfold k_lock_number
 refine oy ?_
 repeat' (first|(first|refine go1 ?_|refine zg (fun _ _=>?_)|refine zi (fun _ _=>?_))|(refine zC (d:=some 13) rfl (oget_spec s a k hk hs hm _) ?_;rintro _ w1 ⟨rfl,x1⟩))
 exact x_ret rfl ⟨rfl,x1⟩
end Go.Proofs.YtfebcajheojodaaGreatDoor
end
section
namespace Go.Proofs.YtfebcajheojodaaGreatDoor
open Go Go.K
attribute [local irreducible] regK codeK retK KOp.wp K.Spec u32 leS vnS str zero32 numAt byteAt
theorem put1_spec (n:Nat) (hn:n<18446744073709551616) (w:World):K.Spec Tryz.prog F.octet_Put [.int .u64 (n:Nat),.int .i64 1] w fun r w'=>r=.string (leS n 1)∧Ext w w':=put_spec n 1 (by decide) hn w
theorem put2_spec (n:Nat) (hn:n<18446744073709551616) (w:World):K.Spec Tryz.prog F.octet_Put [.int .u64 (n:Nat),.int .i64 2] w fun r w'=>r=.string (leS n 2)∧Ext w w':=put_spec n 2 (by decide) hn w
theorem put4_spec (n:Nat) (hn:n<18446744073709551616) (w:World):K.Spec Tryz.prog F.octet_Put [.int .u64 (n:Nat),.int .i64 4] w fun r w'=>r=.string (leS n 4)∧Ext w w':=put_spec n 4 (by decide) hn w
def lputE (l:List Br):Int:=if l.length<1∨3<l.length then 6 else if l.all lowB then 0 else 3
set_option maxHeartbeats 1000000 in
theorem lput_spec {v : Value} {l : List Br} (w : World) (hv : SlE brE w v l) (ho : ∀ b ∈ l, BrOk b) : K.Spec Tryz.prog F.lock_Put [v] w fun r w' => ∃ s, r = .tuple #[.string s, .int .i64 (lputE l)] ∧ Ext w w' := by
  refine s_lock_Put rfl ?_
  unfold k_lock_Put
  refine oy ?_
  repeat' (first|(refine st_len (E := brE) (l := l) rfl (SlE.ext (w := w) (by exact fx) hv) ?_)|(refine zJ (p := ((l.length : Nat) : Int) < 1) rfl (fun h => ?_) (fun h => ?_))|(refine zL (p := ((l.length : Nat) : Int) > 3) rfl (fun h => ?_) (fun h => ?_))|(refine zH (d := some 4) (fun b w0 x0 a0 hb0 => ?_); have hW : BldT b b ⟨#[]⟩ w0 := (Bld.new (Nat.le_refl _) a0))|(refine st_fixV (d := some 17) (.int .u64 (l.length : Nat)) rfl (congrArg (fun n => some (Value.int .u64 n)) (u64_wrap (by omega) (by omega))) ?_)|(refine zC (d := some 18) rfl (put1_spec l.length (by omega) _) ?_; rintro _ w1 ⟨rfl, x1⟩)|(refine zC (d := some 19) rfl (wrs_spec (leS l.length 1) _ (by exact fx) (by decide) (by rw [leS_size]; decide)) ?_; rintro _ w2 ⟨hW2, rW, hS⟩; have xW := rW.ext (w0 := w) (by exact fx) hb0; replace hS : ((⟨#[]⟩ : ByteArray) ++ leS l.length 1).size ≤ 2000000 := (Nat.le_trans hS (by decide)); clear hW x0 x1)|(refine c_loopV (fun (p : Nat × ByteArray) w' => Ext w w' ∧ p.1 ≤ l.length ∧ BldT b b p.2 w' ∧ p.2.size ≤ 2000000 + 1000000 * p.1 ∧ (l.take p.1).all lowB = true) (fun p => [(4, .pointer (some ⟨b, 0, none⟩)), (20, v), (21, .int .i64 (l.length : Nat)), (22, .int .i64 p.1)]) (fun p => l.length - p.1) (0, _) ⟨rfl, rfl, rfl, rfl, trivial⟩ ⟨by exact fx, by simp, by exact fx, by simpa using hS, by simp⟩ ?_; rintro ⟨i, s⟩ ρ w3 ⟨x3, hi, hW3, hS3, ha⟩; simp only at hi hW3 hS3 ha; dsimp only)|(refine zL (p := ((i : Nat) : Int) < ((l.length : Nat) : Int)) rfl (fun h => ?_) (fun h => ?_))|(first|refine go1 ?_|refine zg (fun _ _=>?_)|refine zi (fun _ _=>?_)))
  · exact x_ret rfl ⟨_, by rw [lputE, if_pos (by omega)]; rfl, by exact fx⟩
  · exact x_ret rfl ⟨_, by rw [lputE, if_pos (by omega)]; rfl, by exact fx⟩
  · have hil : i < l.length := by omega
    have hok := ho _ (List.getElem_mem hil)
    have h1 := hok.tag
    have h2 := hok.delay
    have h3 := hok.height
    refine st_elemE (d := some 24) (E := brE) rfl rfl (n := i) (l := l) (hv.ext x3) rfl hil (fun ad r4 => ?_)
    have r4 : Row w3 ad [.int .u16 (l[i].tag : Nat), .int .u16 (l[i].delay : Nat), .int .u32 (l[i].height : Nat)] := r4
    have hb3 : w.heap.size ≤ b := hb0
    repeat' (first|(refine zE (d' := 6) (fun _=>rfl) rfl rfl rfl (fun b6 w6 x6 a6 (r6 : Row w6 ⟨b6, 0, none⟩ [.int .u16 (l[i].tag : Nat), .int .u16 (l[i].delay : Nat), .int .u32 (l[i].height : Nat)]) hb6=>?_); have hne : b6 ≠ b := (by have := hW3.lt; omega))|(first|refine go1 ?_|refine zg (fun _ _=>?_)|refine zi (fun _ _=>?_)))
    refine zL (p := ((l[i].height : Nat) : Int) > 1000000) rfl (fun h => ?_) (fun h => ?_)
    · repeat (first|refine go1 ?_|refine zg (fun _ _=>?_)|refine zi (fun _ _=>?_))
      refine x_ret rfl ⟨⟨#[]⟩, ?_, Ext.trans x3 x6⟩
      have e : lputE l = 3 := by
       rw [lputE, if_neg (by omega), if_neg]
       rw [List.all_eq_true]
       intro hall
       have := hall _ (List.getElem_mem hil)
       unfold lowB at this
       have := of_decide_eq_true this
       omega
      rw [e]; rfl
    · have hlow : (l.take (i + 1)).all lowB = true := by
        rw [List.take_succ_eq_append_getElem hil, List.all_append, ha]
        simp only [List.all_cons, List.all_nil, Bool.and_true, Bool.true_and]
        exact decide_eq_true (by omega)
      have hW6 : BldT b b s w6 := hW3.ext x6
      have x06 : Ext w w6 := x3.trans x6
      clear hW3 hW2 x6 x3 r4 xW rW
      repeat' (first|(refine zg (fun w7 x7 => ?_))|(refine zA ?_)|(refine st_both ?_ ?_)|(refine st_fixV (d := some 31) (.int .u64 (l[i].tag : Nat)) rfl (congrArg (fun n => some (Value.int .u64 n)) (u64_wrap (by omega) (by omega))) ?_)|(refine st_fixV (d := some 35) (.int .u64 (l[i].delay : Nat)) rfl (congrArg (fun n => some (Value.int .u64 n)) (u64_wrap (by omega) (by omega))) ?_)|(refine st_fixV (d := some 40) (.int .u64 (l[i].height : Nat)) rfl (congrArg (fun n => some (Value.int .u64 n)) (u64_wrap (by omega) (by omega))) ?_)|(refine zC (d := some 32) rfl (put2_spec l[i].tag (by omega) _) ?_; rintro _ w8 ⟨rfl, x8⟩)|(refine zC (d := some 36) rfl (put2_spec l[i].delay (by omega) _) ?_; rintro _ w9 ⟨rfl, x9⟩)|(refine zC (d := some 41) rfl (put4_spec l[i].height (by omega) _) ?_; rintro _ w10 ⟨rfl, x10⟩)|(refine st_catS (d := some 37) rfl rfl (by rw [leS_size, leS_size]; decide) ?_)|(refine st_catS (d := some 42) rfl rfl (by rw [ByteArray.size_append, leS_size, leS_size, leS_size]; decide) ?_)|(refine zC (d := some 43) rfl (wrs_spec (leS l[i].tag 2 ++ leS l[i].delay 2 ++ leS l[i].height 4) _ (by exact fx) (by omega) (by rw [ByteArray.size_append, ByteArray.size_append, leS_size, leS_size, leS_size]; decide)) ?_; rintro _ w11 ⟨hW11, rW11, hS11⟩; have xW11 := rW11.ext (w0 := w) (by exact fx) hb3)|(first|refine go1 ?_|refine zg (fun _ _=>?_)|refine zi (fun _ _=>?_)))
      all_goals exact ⟨(i + 1, _), ⟨rfl, rfl, rfl, rfl, trivial⟩, ⟨xW11, hil, hW11, Nat.le_trans hS11 (by omega), hlow⟩, by show l.length - (i + 1) < l.length - i; omega⟩
  · have ei : i = l.length := by omega
    subst ei
    rw [List.take_length] at ha
    repeat' (first|(first|refine go1 ?_|refine zg (fun _ _=>?_)|refine zi (fun _ _=>?_))|(refine zC (d := some 45) rfl (bstr_spec _ (by exact fx)) ?_; rintro _ w9 ⟨rfl, hW9, rW9⟩; have xW9 := rW9.ext (w0 := w) (by exact fx) hb0))
    exact x_ret rfl ⟨_, by rw [lputE, if_neg (by omega), if_pos ha]; rfl, by exact fx⟩
end Go.Proofs.YtfebcajheojodaaGreatDoor
end
section
namespace Go.Proofs.YtfebcajheojodaaGreatDoor
open Go Go.K
attribute [local irreducible] regK codeK retK KOp.wp K.Spec u32 leS vnS str zero32 numAt byteAt
theorem lock_bad {s:ByteArray} (h:¬(s.size=1+8*byteAt s 0∧byteAt s 0≤3)):lockL s= []:=by
 unfold lockL
 rw [if_neg]
 intro h2
 apply h
 simp only [lockForm,Bool.and_eq_true,Bool.or_eq_true,decide_eq_true_eq] at h2
 obtain ⟨⟨h3,h4⟩,_⟩:=h2
 have h4:byteAt s 0=(s.size - 1) / 8:=h4
 omega
theorem lock_put {s:ByteArray} (h:s.size=1+8*byteAt s 0) (h3:byteAt s 0≤3):lockN s=byteAt s 0∧lockL s=if lputE (brsL s)=0 then brsL s else []:=by
 have hn:lockN s=byteAt s 0:=by unfold lockN;omega
 refine ⟨hn,?_⟩
 have hl:(brsL s).length=byteAt s 0:=by simp [brsL,hn]
 unfold lockL lputE
 by_cases h0:byteAt s 0=0
 ·have e:lockForm s=false:=by
   cases hf:lockForm s with
   |false=>rfl
   |true=>
    simp only [lockForm,Bool.and_eq_true,Bool.or_eq_true,decide_eq_true_eq] at hf
    omega
  rw [e,if_pos (by omega:(brsL s).length<1∨3<(brsL s).length)];rfl
 ·have hf:lockForm s=true:=by
   simp only [lockForm,Bool.and_eq_true,Bool.or_eq_true,decide_eq_true_eq]
   omega
  rw [hf,Bool.true_and,if_neg (by omega:¬((brsL s).length<1∨3<(brsL s).length))]
  cases hb:(brsL s).all lowB<;>rfl
theorem brs_take {s:ByteArray} {i:Nat}:(List.range (i+1)).map (brAt s)=(List.range i).map (brAt s)++ [brAt s i]:=by rw [List.range_succ,List.map_append];rfl
theorem u16_wrap {n:Nat} (h:n<65536):IntKind.u16.wrap (n:Int)=(n:Int):=by show (n:Int)%65536=n;omega
theorem u32_wrap {n:Nat} (h:n<4294967296):IntKind.u32.wrap (n:Int)=(n:Int):=by show (n:Int)%4294967296=n;omega
theorem st_elemEB {P:Program} {d:Option Tmp} {r:KR} {K:Env→World→Prop} {ρ:Env} {w:World} {α:Type} {E:Enc α} {size:Nat} {x i:Operand} {v:Value} {l:List α} {kd:IntKind} {n:Nat} (hx:ev ρ x=v) (hi:ev ρ i=.int kd (n:Nat)) (hs:SlE E w v l) (hk:size=E.k) (hr:n<l.length) (k:∀ad,Row w ad (E.f l[n])→ad.block∈blkOf v→regK P r K (put ρ d (.pointer (some ad))) w):regK P (.cons ⟨d,.indexAddr size x i,none⟩ r) K ρ w:=by
 subst hk
 obtain ⟨a,cap,hv,hrow⟩:=Sl.at_ hs E.pos hr
 subst hv
 exact st_fix rfl (by simp [KOp.fix,hx,hi,hr]) (k (a.add (n*E.k)) (by rw [E.flat_at l n hr] at hrow;exact hrow) (by simp [blkOf,add_block]))
set_option maxHeartbeats 1000000 in
theorem lget_spec (s:ByteArray) (hm:s.size≤1000000) (w:World):K.Spec Tryz.prog F.lock_Get [.string s] w fun r w'=>∃v e,r=.tuple #[v,.int .i64 e]∧SlE brE w' v (lockL s)∧(e≠0→lockL s= [])∧(∀b∈blkOf v,w.heap.size≤b)∧Ext w w':=by
 refine s_lock_Get rfl ?_
 unfold k_lock_Get
 refine oy ?_
 by_cases h0:s=⟨#[]⟩
 ·have hb:lockL s= []:=lock_bad (by subst h0;have:(⟨#[]⟩:ByteArray).size=0:=rfl;omega)
  rw [hb]
  repeat' (first|(refine st_fixV (d:=some 9) (.bool true) rfl (congrArg (fun b=>some (Value.bool b)) (decide_eq_true h0)) ?_)|(first|refine go1 ?_|refine zg (fun _ _=>?_)|refine zi (fun _ _=>?_)))
  exact x_ret rfl ⟨.slice none 0 0,_,rfl,SlE.nil _,fun _=>rfl,(fun b hb=>absurd hb (by simp [blkOf])),Ext.refl _⟩
 have hsz:0<s.size:=by
  rcases Nat.eq_zero_or_pos s.size with h|h
  ·exact absurd (ByteArray.ext (Array.eq_empty_of_size_eq_zero (by simpa using h))) h0
  ·exact h
 have hb0:=byteAt_get hsz
 have hb8:=s[0].toNat_lt
 obtain ⟨n,hn⟩:∃n:Nat,n=s[0].toNat:=⟨_,rfl⟩
 rw [←hn] at hb0 hb8
 have pre:s.size=1+8*byteAt s 0∧byteAt s 0≤3∨¬(s.size=1+8*byteAt s 0∧byteAt s 0≤3):=by omega
 repeat' (first|(refine st_fixV (d:=some 9) (.bool false) rfl (congrArg (fun b=>some (Value.bool b)) (decide_eq_false h0)) ?_)|(refine st_idxS (d:=some 12) (k:=.i64) (n:=0) rfl rfl hsz ?_;rw [←hn])|(refine st_fixV (d:=some 13) (.int .i64 (n:Nat)) rfl (congrArg (fun n=>some (Value.int .i64 n)) (wrap_n8 (by omega))) ?_)|(refine zJ (p:=((n:Nat):Int)>3) rfl (fun h=>?_) (fun h=>?_))|(refine st_idxS (d:=some 20) (k:=.i64) (n:=0) rfl rfl hsz ?_;rw [←hn])|(refine st_fixV (d:=some 21) (.int .i64 (n:Nat)) rfl (congrArg (fun n=>some (Value.int .i64 n)) (wrap_n8 (by omega))) ?_)|(refine st_mul (d:=some 22) (a:=8) (b:=(n:Nat)) rfl rfl (by omega) ?_)|(refine zN (p:=((s.size:Nat):Int)=1+8*((n:Nat):Int)) rfl (fun h=>?_) (fun h=>?_))|(refine c_loopV (fun (p:Nat × Value) w'=>Ext w w'∧p.1≤n∧Own brE T.api_Branch w.heap.size w' p.2 ((List.range p.1).map (brAt s))) (fun p=> [(0,.string s),(4,p.2),(5,.int .i64 (1+8*(p.1:Int)))]) (fun p=>n - p.1) (0,.slice none 0 0) ⟨rfl,rfl,rfl,trivial⟩ ⟨Ext.refl _,by simp,Own.nil _ _ _⟩ ?_;rintro ⟨i,v4⟩ ρ w3 ⟨x3,hi,ho⟩;simp only at hi ho;dsimp only)|(refine zL (p:=1+8*((i:Nat):Int)<((s.size:Nat):Int)) rfl (fun h=>?_) (fun h=>?_))|(first|refine go1 ?_|refine zg (fun _ _=>?_)|refine zi (fun _ _=>?_)))
 ·rw [lock_bad (by omega)]
  exact x_ret rfl ⟨.slice none 0 0,_,rfl,SlE.nil _,fun _=>rfl,(fun b hb=>absurd hb (by simp [blkOf])),Ext.refl _⟩
 ·rw [lock_bad (by omega)]
  exact x_ret rfl ⟨.slice none 0 0,_,rfl,SlE.nil _,fun _=>rfl,(fun b hb=>absurd hb (by simp [blkOf])),Ext.refl _⟩
 ·have hin:i<n:=by omega
  have q1:=numAt_lt s 2 (1+8*i)
  have q2:=numAt_lt s 2 (3+8*i)
  have q3:=numAt_lt s 4 (5+8*i)
  repeat' (first|(refine zC (d:=some 35) (congrArg (fun z=> [Value.string s,Value.int .i64 z,Value.int .i64 2]) (by omega)) (number_spec s (1+8*i) 2 (by decide) (by omega) (by omega) _) ?_;rintro _ w4 ⟨rfl,x4⟩)|(refine st_fixV (d:=some 36) (.int .u16 (numAt s (1+8*i) 2:Nat)) rfl (congrArg (fun n=>some (Value.int .u16 n)) (u16_wrap q1)) ?_)|(refine zC (d:=some 40) (congrArg (fun z=> [Value.string s,Value.int .i64 z,Value.int .i64 2]) (by omega)) (number_spec s (3+8*i) 2 (by decide) (by omega) (by omega) _) ?_;rintro _ w5 ⟨rfl,x5⟩)|(refine st_fixV (d:=some 41) (.int .u16 (numAt s (3+8*i) 2:Nat)) rfl (congrArg (fun n=>some (Value.int .u16 n)) (u16_wrap q2)) ?_)|(refine zC (d:=some 45) (congrArg (fun z=> [Value.string s,Value.int .i64 z,Value.int .i64 4]) (by omega)) (number_spec s (5+8*i) 4 (by decide) (by omega) (by omega) _) ?_;rintro _ w6 ⟨rfl,x6⟩)|(refine st_fixV (d:=some 46) (.int .u32 (numAt s (5+8*i) 4:Nat)) rfl (congrArg (fun n=>some (Value.int .u32 n)) (u32_wrap q3)) ?_)|(refine st_build (d:=some 47) (cs:=brE.f (brAt s i)) rfl ?_)|(refine zI (d:=some 48) (cs:=brE.f (brAt s i)) rfl (fun b9 w9 x9 a9 hb9=>?_))|(refine st_append (d:=some 49) (E:=brE) (v:=v4) (l2:= [brAt s i]) rfl (ho.ext (by exact fx)) (Ext.size (w:=w) (by exact fx)) rfl rfl (sl_new a9 rfl) rfl rfl (by simp;omega) (fun v10 w10 o10 c10=>?_))|(first|refine go1 ?_|refine zg (fun _ _=>?_)|refine zi (fun _ _=>?_)))
  exact ⟨(i+1,v10),⟨rfl,rfl,congrArg (Value.int .i64) (by simp only;omega),trivial⟩,⟨(Ext.chg (w:=w) (by exact fx) c10).mono (fun b hb=>.inr (ho.base b hb)),by simp only;omega,by simp only;rw [brs_take];exact o10⟩,by simp only;omega⟩
 ·have ei:i=n:=by omega
  subst ei
  have hp:=lock_put (s:=s) (by omega) (by omega)
  have hl:(List.range i).map (brAt s)=brsL s:=by unfold brsL;rw [hp.1,hb0]
  rw [hl] at ho
  have hok:∀b∈brsL s,BrOk b:=fun b hb=>by
   unfold brsL at hb
   obtain ⟨j,_,rfl⟩:=List.mem_map.1 hb
   exact brAt_ok s j
  rw [hp.2]
  repeat' (first|(refine zC (d:=some 52) rfl (lput_spec _ (SlE.ext (w:=w3) (by exact fx) ho.sl) hok) ?_;rintro _ w4 ⟨z,rfl,x4⟩)|(refine zN (p:=lputE (brsL s)=0) rfl (fun h=>?_) (fun h=>?_))|(first|refine go1 ?_|refine zg (fun _ _=>?_)|refine zi (fun _ _=>?_)))
  ·rw [if_neg h]
   exact x_ret rfl ⟨.slice none 0 0,_,rfl,SlE.nil _,fun _=>rfl,(fun b hb=>absurd hb (by simp [blkOf])),by exact fx⟩
  ·rw [if_pos h]
   exact x_ret rfl ⟨_,_,rfl,SlE.ext x4 ho.sl,fun he=>absurd rfl he,ho.base,by exact fx⟩
def signV (l:List ByteArray):Value:=match signL l with
 |some (a,t)=>.tuple #[.int .i64 (a:Nat),.int .u16 (t:Nat),.int .i64 0]
 |none=>.tuple #[.int .i64 0,.int .u16 0,.int .i64 4]
theorem signed_spec {v:Value} {l:List ByteArray} (w:World) (hv:SlE strE w v l) (hz:∀z∈l,z.size≤1000000):K.Spec Tryz.prog F.lock_Signed [v] w fun r w'=>r=signV l∧Ext w w':=by
 refine s_lock_Signed rfl ?_
 unfold k_lock_Signed
 refine oy ?_
 by_cases h1:l.length=1
 ·obtain ⟨z,rfl⟩:∃z,l= [z]:=by
   match l,h1 with
   | [z],_=>exact ⟨z,rfl⟩
  have hzm:=hz z (by simp)
  by_cases h3:z.size=3
  ·have hb0:=byteAt_get (s:=z) (i:=0) (by omega)
   have hb8:=z[0].toNat_lt
   obtain ⟨n,hn⟩:∃n:Nat,n=z[0].toNat:=⟨_,rfl⟩
   rw [←hn] at hb0 hb8
   have q1:=numAt_lt z 2 1
   by_cases h4:n<3
   ·have e:signV [z]=.tuple #[.int .i64 (n:Nat),.int .u16 (numAt z 1 2:Nat),.int .i64 0]:=by
     unfold signV signL
     rw [if_pos ⟨rfl,h3,by show byteAt z 0<3;omega⟩]
     show Value.tuple #[.int .i64 (byteAt z 0:Nat),_,_]=_
     rw [hb0];rfl
    rw [e]
    repeat' (first|(refine st_len (d:=some 6) (E:=strE) (l:= [z]) rfl (SlE.ext (w:=w) (by exact fx) hv) ?_)|(refine st_fixV (d:=some 7) (.bool false) rfl rfl ?_)|(refine st_elemE (d:=some 10) (E:=strE) rfl rfl (n:=0) (l:= [z]) (SlE.ext (w:=w) (by exact fx) hv) rfl (by simp) (fun ad r4=>?_);have r4:Row _ ad [Value.string z]:=r4)|(refine st_fixV (d:=some 13) (.bool false) rfl (by show some (Value.bool (!decide (((z.size:Nat):Int)=3)))=_;rw [decide_eq_true (by omega)];rfl) ?_)|(refine st_elemE (d:=some 17) (E:=strE) rfl rfl (n:=0) (l:= [z]) (SlE.ext (w:=w) (by exact fx) hv) rfl (by simp) (fun ad r5=>?_);have r5:Row _ ad [Value.string z]:=r5)|(refine st_idxS (d:=some 19) (k:=.i64) (n:=0) rfl rfl (by omega) ?_;rw [←hn])|(refine st_fixV (d:=some 20) (.bool false) rfl (congrArg (fun b=>some (Value.bool b)) (decide_eq_false (by omega))) ?_)|(refine zg (fun w7 x7=>?_))|(refine st_both ?_ ?_)|(refine st_elemE (d:=some 23) (E:=strE) rfl rfl (n:=0) (l:= [z]) (SlE.ext (w:=w) (by exact fx) hv) rfl (by simp) (fun ad r6=>?_);have r6:Row _ ad [Value.string z]:=r6)|(refine st_elemE (d:=some 28) (E:=strE) rfl rfl (n:=0) (l:= [z]) (SlE.ext (w:=w) (by exact fx) hv) rfl (by simp) (fun ad r7=>?_);have r7:Row _ ad [Value.string z]:=r7)|(refine st_idxS (d:=some 25) (k:=.i64) (n:=0) rfl rfl (by omega) ?_;rw [←hn])|(refine st_fixV (d:=some 26) (.int .i64 (n:Nat)) rfl (congrArg (fun n=>some (Value.int .i64 n)) (wrap_n8 (by omega))) ?_)|(refine zC (d:=some 30) rfl (number_spec z 1 2 (by decide) (by omega) (by omega) _) ?_;rintro _ w8 ⟨rfl,x8⟩)|(refine st_fixV (d:=some 31) (.int .u16 (numAt z 1 2:Nat)) rfl (congrArg (fun n=>some (Value.int .u16 n)) (u16_wrap q1)) ?_)|(first|refine go1 ?_|refine zg (fun _ _=>?_)|refine zi (fun _ _=>?_)))
    all_goals exact x_ret rfl ⟨rfl,by exact fx⟩
   ·have e:signV [z]=.tuple #[.int .i64 0,.int .u16 0,.int .i64 4]:=by
     unfold signV signL
     rw [if_neg]
     rintro ⟨_,_,h⟩
     have h:byteAt z 0<3:=h
     omega
    rw [e]
    repeat' (first|(refine st_len (d:=some 6) (E:=strE) (l:= [z]) rfl (SlE.ext (w:=w) (by exact fx) hv) ?_)|(refine st_fixV (d:=some 7) (.bool false) rfl rfl ?_)|(refine st_elemE (d:=some 10) (E:=strE) rfl rfl (n:=0) (l:= [z]) (SlE.ext (w:=w) (by exact fx) hv) rfl (by simp) (fun ad r4=>?_);have r4:Row _ ad [Value.string z]:=r4)|(refine st_fixV (d:=some 13) (.bool false) rfl (by show some (Value.bool (!decide (((z.size:Nat):Int)=3)))=_;rw [decide_eq_true (by omega)];rfl) ?_)|(refine st_elemE (d:=some 17) (E:=strE) rfl rfl (n:=0) (l:= [z]) (SlE.ext (w:=w) (by exact fx) hv) rfl (by simp) (fun ad r5=>?_);have r5:Row _ ad [Value.string z]:=r5)|(refine st_idxS (d:=some 19) (k:=.i64) (n:=0) rfl rfl (by omega) ?_;rw [←hn])|(refine st_fixV (d:=some 20) (.bool true) rfl (congrArg (fun b=>some (Value.bool b)) (decide_eq_true (by omega))) ?_)|(first|refine go1 ?_|refine zg (fun _ _=>?_)|refine zi (fun _ _=>?_)))
    exact x_ret rfl ⟨rfl,by exact fx⟩
  ·have e:signV [z]=.tuple #[.int .i64 0,.int .u16 0,.int .i64 4]:=by
    unfold signV signL
    rw [if_neg]
    rintro ⟨_,h,_⟩
    exact h3 h
   rw [e]
   repeat' (first|(refine st_len (d:=some 6) (E:=strE) (l:= [z]) rfl (SlE.ext (w:=w) (by exact fx) hv) ?_)|(refine st_fixV (d:=some 7) (.bool false) rfl rfl ?_)|(refine st_elemE (d:=some 10) (E:=strE) rfl rfl (n:=0) (l:= [z]) (SlE.ext (w:=w) (by exact fx) hv) rfl (by simp) (fun ad r4=>?_);have r4:Row _ ad [Value.string z]:=r4)|(refine st_fixV (d:=some 13) (.bool true) rfl (by show some (Value.bool (!decide (((z.size:Nat):Int)=3)))=_;rw [decide_eq_false (by omega)];rfl) ?_)|(first|refine go1 ?_|refine zg (fun _ _=>?_)|refine zi (fun _ _=>?_)))
   exact x_ret rfl ⟨rfl,by exact fx⟩
 ·have e:signV l=.tuple #[.int .i64 0,.int .u16 0,.int .i64 4]:=by
   unfold signV signL
   rw [if_neg]
   rintro ⟨h,_⟩
   exact h1 h
  rw [e]
  repeat' (first|(refine st_len (d:=some 6) (E:=strE) (l:=l) rfl (SlE.ext (w:=w) (by exact fx) hv) ?_)|(refine st_fixV (d:=some 7) (.bool true) rfl (by show some (Value.bool (!decide (((l.length:Nat):Int)=1)))=_;rw [decide_eq_false (by omega)];rfl) ?_)|(first|refine go1 ?_|refine zg (fun _ _=>?_)|refine zi (fun _ _=>?_)))
  exact x_ret rfl ⟨rfl,by exact fx⟩
end Go.Proofs.YtfebcajheojodaaGreatDoor
end
