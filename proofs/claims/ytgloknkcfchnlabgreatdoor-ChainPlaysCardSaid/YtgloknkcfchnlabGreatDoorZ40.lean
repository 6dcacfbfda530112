/- Contracts: an error's number and place. -/
import Derived.Test.YtgloknkcfchnlabGreatDoorZ36
import Derived.Test.YtgloknkcfchnlabGreatDoorZ37
import Derived.Test.YtgloknkcfchnlabGreatDoorZ38
set_option linter.unusedVariables false
set_option linter.unusedSimpArgs false
namespace Go.Proofs.YtgloknkcfchnlabGreatDoor
section
open Go Go.K
def EtR (w:World):Prop:=w.cell? ⟨0,0,none⟩=some (.iface 138 (.agg #[.pointer (some ⟨2,31,none⟩)]))
theorem EtR.lt {w:World} (h:EtR w):0<w.heap.size:=cell_lt h
theorem EtR.chg {L:List Nat} {w w':World} (h:EtR w) (x:Chg L w w') (hL:∀y∈L,0<y):EtR w':=by
 unfold EtR at h ⊢
 rw [cell_of_heap (x.block _ (EtR.lt h) (fun hm=>Nat.lt_irrefl _ (hL _ hm)))];exact h
theorem EtR.ext {w w':World} (h:EtR w) (x:Ext w w'):EtR w':=h.chg x (by simp)
theorem jA {w:World} {b o:Nat} {cs:List Value} {t:TypeId} {f:Nat × Nat} {v:Value} (h:At w b (.cells cs.toArray t f)) (hv:cs[o]? =some v):w.cell? ⟨b,o,none⟩=some v:=by
 unfold At at h
 simp [World.cell?,h,hv]
theorem aQc {w:World} {b:Nat} {cs:Array Value} {t:TypeId} (h:At w b (.cells cs t (0,0))) (hp:0<cs.size):w.frozen? ⟨b,0,none⟩=false:=by
 unfold At at h
 simp [World.frozen?,h]
theorem aVi (n:Int) (t:Nat) (old:Value) (w:World) (hg:EtR w) (ht0:w.cell? ⟨t,0,none⟩=some old) (hf0:w.frozen? ⟨t,0,none⟩=false):K.Spec Tryz.prog 40 [.iface 45 (.int .i64 n),.iface 106 (.pointer (some ⟨t,0,none⟩))] w fun r w'=>r=.bool true∧Chg [t] w w'∧w'.cell? ⟨t,0,none⟩=some (.int .i64 n):=
 Calls.mono (aXk n ⟨t,0,none⟩ old w hg ht0 hf0) fun _ _ h=>⟨_,h.1,rfl,h.2⟩
theorem aHr (n:Int) (b1 t:Nat) (old:Value) (w:World) (hg:EtR w) (hc1:w.cell? ⟨b1,1,none⟩=some (.iface 45 (.int .i64 n))) (ht0:w.cell? ⟨t,0,none⟩=some old) (hf0:w.frozen? ⟨t,0,none⟩=false):K.Spec Tryz.prog 40 [.iface 89 (.pointer (some ⟨b1,0,none⟩)),.iface 106 (.pointer (some ⟨t,0,none⟩))] w fun r w'=>r=.bool true∧Chg [t] w w'∧w'.cell? ⟨t,0,none⟩=some (.int .i64 n):=
 Calls.mono (aUl n b1 ⟨t,0,none⟩ old w hg hc1 ht0 hf0) fun _ _ h=>⟨_,h.1,rfl,h.2⟩
theorem aQ8 (n:Int) (b1 b2 t:Nat) (old:Value) (w:World) (hg:EtR w) (hc1:w.cell? ⟨b1,1,none⟩=some (.iface 89 (.pointer (some ⟨b2,0,none⟩)))) (hc2:w.cell? ⟨b2,1,none⟩=some (.iface 45 (.int .i64 n))) (ht0:w.cell? ⟨t,0,none⟩=some old) (hf0:w.frozen? ⟨t,0,none⟩=false):K.Spec Tryz.prog 40 [.iface 89 (.pointer (some ⟨b1,0,none⟩)),.iface 106 (.pointer (some ⟨t,0,none⟩))] w fun r w'=>r=.bool true∧Chg [t] w w'∧w'.cell? ⟨t,0,none⟩=some (.int .i64 n):=
 Calls.mono (aUw n b1 b2 ⟨t,0,none⟩ old w hg hc1 hc2 ht0 hf0) fun _ _ h=>⟨_,h.1,rfl,h.2⟩
theorem aVk (b1 t:Nat) (old:Value) (w:World) (hg:EtR w) (ht0:w.cell? ⟨t,0,none⟩=some old) (hf0:w.frozen? ⟨t,0,none⟩=false):K.Spec Tryz.prog 40 [.iface 89 (.pointer (some ⟨b1,0,none⟩)),.iface 117 (.pointer (some ⟨t,0,none⟩))] w fun r w'=>r=.bool true∧Chg [t] w w'∧w'.cell? ⟨t,0,none⟩=some (.pointer (some ⟨b1,0,none⟩)):=
 Calls.mono (aW3 b1 ⟨t,0,none⟩ old w hg ht0 hf0) fun _ _ h=>⟨_,h.1,rfl,h.2⟩
theorem aRq (n:Int) (t:Nat) (w:World) (hg:EtR w):K.Spec Tryz.prog 40 [.iface 45 (.int .i64 n),.iface 117 (.pointer (some ⟨t,0,none⟩))] w fun r w'=>r=.bool false∧Ext w w':=
 Calls.mono (aUn n ⟨t,0,none⟩ w hg) fun _ _ h=>⟨_,h.1,rfl,h.2⟩
attribute [local irreducible] aG aK aU KOp.wp K.Spec EtR
theorem mY {w:World} {v:Value} {c a:Int} (h:dA w 0 v c a) (hc:c≠0):v=yW c:=by
 rcases h with ⟨-,⟨h, -⟩|⟨-,h⟩⟩
 ·exact absurd h hc
 ·exact h
theorem aZl {w:World} {v:Value} {c a:Int} {t:Nat} (hg:EtR w) (h:dA w 2 v c a) (h0:c≠0) (at1:At w t (.cells [Value.int .i64 0].toArray T.api_Errno (0,0))):K.Spec Tryz.prog F.errors_As [v,.iface T.P_api_Errno (.pointer (some ⟨t,0,none⟩))] w fun r w'=>r=.bool true∧Chg [t] w w'∧w'.cell? ⟨t,0,none⟩=some (.int .i64 c):=by
 have hc:=jA (o:=0) at1 rfl
 have hf:=aQc at1 (by simp)
 rcases h with (h1|⟨hc1, -,b1,u1,a1,rfl,hb1,h1⟩)|⟨hc1, -,b1,u1,a1,rfl,hb1,(h1|⟨hc2, -,b2,u2,a2,rfl,hb2,h2⟩)⟩
 ·obtain rfl:=mY h1 h0
  exact aVi c t _ w hg hc hf
 ·obtain rfl:=mY h1 h0
  exact aHr c b1 t _ w hg (jA hb1 rfl) hc hf
 ·obtain rfl:=mY h1 h0
  exact aHr c b1 t _ w hg (jA hb1 rfl) hc hf
 ·obtain rfl:=mY h2 h0
  exact aQ8 c b1 b2 t _ w hg (jA hb1 rfl) (jA hb2 rfl) hc hf
theorem aB4 {w:World} {v:Value} {c a:Int} (hg:EtR w) (h:dA w 2 v c a):K.Spec Tryz.prog F.api_Code [v] w fun r w'=>r=.int .i64 c∧Ext w w':=by
 obtain ⟨n1,n2⟩:=h.nil_iff
 by_cases h0:c=0
 ·obtain ⟨rfl, -⟩:=n1 h0
  subst h0
  refine aEa rfl ?_
  unfold wF
  refine oy ?_
  repeat (first|refine zH (d:=some 3) (fun b3 w1 x1 a3 hb3=>?_)|refine go1 ?_|refine zg λ_ _=>?_|refine zi λ_ _=>?_)
  exact aB rfl ⟨rfl,x1⟩
 ·obtain ⟨et,eu,rfl⟩:=n2 h0
  refine aEa rfl ?_
  unfold wF
  refine oy ?_
  repeat (first|refine zH (d:=some 3) (fun b3 w1 x1 a3 hb3=>?_)|refine go1 ?_|refine zg λ_ _=>?_|refine zi λ_ _=>?_)
  refine zC (d:=some 9) rfl (aZl (hg.ext x1) (dA.ext x1 h) h0 a3) ?_
  rintro _ w2 ⟨rfl,c2,e2⟩
  repeat (first|refine vH (d:=some 11) rfl e2 ?_|refine go1 ?_|refine zg λ_ _=>?_|refine zi λ_ _=>?_)
  exact aB rfl ⟨rfl,(Ext.chg x1 c2).mono (fun y hy=>.inr (by simp at hy;omega))⟩
theorem xJ {w:World} {v:Value} {c a:Int} (hg:EtR w) (h:dA w 2 v c a):K.Spec Tryz.prog F.api_Place [v] w fun r w'=>r=.int .i64 a∧Ext w w':=by
 obtain ⟨n1,n2⟩:=h.nil_iff
 by_cases h0:c=0
 ·obtain ⟨rfl,rfl⟩:=n1 h0
  refine sI rfl ?_
  unfold nU
  refine oy ?_
  repeat (first|refine zH (d:=some 3) (fun b3 w1 x1 a3 hb3=>?_)|refine go1 ?_|refine zg λ_ _=>?_|refine zi λ_ _=>?_)
  exact aB rfl ⟨rfl,x1⟩
 ·have hs:(v=yW c∧a= -1)∨∃b u,v=.iface T.P_api_Fault (.pointer (some ⟨b,0,none⟩))∧At w b (.cells [.int .i64 a,u].toArray T.api_Fault (0,0)):=by
   rcases h with (h1|⟨hc1, -,b1,u1,a1,rfl,hb1,h1⟩)|⟨hc1, -,b1,u1,a1,rfl,hb1, -⟩
   ·exact .inl ⟨mY h1 h0,h1.1⟩
   ·exact .inr ⟨b1,u1,rfl,hb1⟩
   ·exact .inr ⟨b1,u1,rfl,hb1⟩
  rcases hs with ⟨rfl,rfl⟩|⟨b1,u1,rfl,hb1⟩
  ·refine sI rfl ?_
   unfold nU
   refine oy ?_
   repeat (first|refine zH (d:=some 3) (fun b3 w1 x1 a3 hb3=>?_)|refine go1 ?_|refine zg λ_ _=>?_|refine zi λ_ _=>?_)
   refine zC (d:=some 9) rfl (aRq c b3 w1 (hg.ext x1)) ?_
   rintro _ w2 ⟨rfl,x2⟩
   repeat (first|refine go1 ?_|refine zg λ_ _=>?_|refine zi λ_ _=>?_)
   exact aB rfl ⟨rfl,x1.trans x2⟩
  ·refine sI rfl ?_
   unfold nU
   refine oy ?_
   repeat (first|refine zH (d:=some 3) (fun b3 w1 x1 a3 hb3=>?_)|refine go1 ?_|refine zg λ_ _=>?_|refine zi λ_ _=>?_)
   refine zC (d:=some 9) rfl (aVk b1 b3 _ w1 (hg.ext x1) (jA (o:=0) a3 rfl) (aQc a3 (by simp))) ?_
   rintro _ w2 ⟨rfl,c2,e2⟩
   have hb2:=(At.ext x1 hb1).chg c2 (by have:=hb1.lt;simp;omega)
   have r2:=Row.of_at hb2
   repeat (first|refine vH (d:=some 11) rfl e2 ?_|refine go1 ?_|refine zg λ_ _=>?_|refine zi λ_ _=>?_)
   exact aB rfl ⟨rfl,(Ext.chg x1 c2).mono (fun y hy=>.inr (by simp at hy;omega))⟩
end
end Go.Proofs.YtgloknkcfchnlabGreatDoor
