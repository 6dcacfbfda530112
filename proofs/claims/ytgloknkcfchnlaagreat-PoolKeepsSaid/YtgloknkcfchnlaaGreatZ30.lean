/- Contracts: the score of an entry, the worst one, the total s -/
import Derived.KernelRfl
import Derived.Test.YtgloknkcfchnlaaGreatZ26
set_option linter.unusedVariables false
set_option linter.unusedSimpArgs false
namespace Go.Proofs.YtgloknkcfchnlaaGreat
section
open Go Go.K
attribute [local irreducible] aF aP bG KOp.wp K.Spec u32 leS vnS str aR dE bS idT aO aE aQ idN bB cH bY bT cE eO bF cI aK kI fP bFb
theorem mF (l:List Ent) (m:List Bool):(aK l m).length≤l.length:=by
 have:=(lV l m).length_le
 simpa using this
end
section
open Go Go.K
attribute [local irreducible] aF aP bG KOp.wp K.Spec u32 leS vnS str aR dE bS idT aO aE aQ idN bB cH bY bT cE eO bF cI aK kI fP
theorem bQx (p q:Pt):(decide (p.s=q.s)&&(decide (p.i=q.i)&&true))=decide (p=q):=by
 cases p;cases q
 simp only [Bool.and_true,Pt.mk.injEq]
 exact Bool.decide_and _ _ |>.symm
theorem bKw:cK Tryz.prog F.replace_Conflicts_1_1=true:=by kernel_rfl
theorem bLs:cK Tryz.prog F.replace_Conflicts_1=true:=by kernel_rfl
theorem bCn (a b:TIn) (av bv:Value) {ba:Nat} (w:World) (hbv:bv.oneCell'=true) (ha:Row w ⟨ba,0,none⟩ (eJ a av)):K.Spec Tryz.prog F.replace_Conflicts_1_1 [.agg (eJ b bv).toArray,.pointer (some ⟨ba,0,none⟩)] w fun r w'=>r=.bool (decide (a.p=b.p))∧Ext w w':=by
 rw [←bQx]
 refine aAw rfl ?_
 unfold pA
 refine oy ?_
 repeat' (first|refine go1 ?_|refine zg λ_ _=>?_|refine zi λ_ _=>?_|refine zD rfl rfl (fun bp wp xp ap (rp:Row wp ⟨bp,0,none⟩ (eJ b bv)) hp0=>?_))
 exact aA rfl ⟨rfl,by exact fx⟩
theorem bEv {M:List Nat} (a:TIn) (av iv ov:Value) {bt:Nat} {t:Tx} (w:World) (hav:av.oneCell'=true) (ht:Row w ⟨bt,0,none⟩ (aJ t iv ov)) (hi:SlR inR M w iv t.ins) (hn:t.ins.length≤1000):K.Spec Tryz.prog F.replace_Conflicts_1 [.agg (eJ a av).toArray,.pointer (some ⟨bt,0,none⟩)] w fun r w'=>r=.bool (t.ins.any fun b=>decide (a.p=b.p))∧Ext w w':=by
 refine aC5 rfl ?_
 unfold rD
 refine oy ?_
 repeat' (first|refine go1 ?_|refine zg λ_ _=>?_|refine zi λ_ _=>?_|refine zD rfl rfl (fun bp wp xp ap (rp:Row wp ⟨bp,0,none⟩ (eJ a av)) hp0=>?_)|(refine zC rfl (rH (l:=t.ins) (M:=M) (g:=F.replace_Conflicts_1_1) (capl:= [_]) (p:=fun b=>decide (a.p=b.p)) _ bKw (SlR.ext hi (by exact fx)) (by omega) ?_) ?_;rotate_left;rintro _ w2 ⟨rfl,x2⟩))
 ·exact aA rfl ⟨rfl,by exact fx⟩
 ·intro x _ w' cs x2 hc
  obtain ⟨bv,rfl,hw,_⟩:=hc
  exact bCn a x av bv w' hw.one (rp.ext x2)
theorem aRg {l:List Ent} {t:Tx} {i:Nat} (h:i<l.length):aK (l.take (i+1)) ((bV l t).take (i+1))=aK (l.take i) ((bV l t).take i)++if gJ t l[i]=true then [l[i].id] else []:=by
 have e:(bV l t)[i]'(by rw [←aL5];exact h)=gJ t l[i]:=by simp [bV]
 rw [aQd aL5 h,e]
set_option maxHeartbeats 2000000 in
theorem gX {g:Nat} {M N:List Nat} {l:List Ent} {cs:List Value} {t:Tx} (w:World) (hG:GrR w g M l) (hM:∀b∈M,b<w.heap.size) (ht:txR.rel N w cs t) (hs:t.ins.length≤1000) (hl:l.length≤1000):
  K.Spec Tryz.prog F.replace_Conflicts [.pointer (some ⟨g,0,none⟩),.agg cs.toArray] w fun r w'=>Own bL T.string w.heap.size w' r (aK l (bV l t))∧Ext w w':=by
 have hsm:∀x∈l,x.tx.Sm:=fun x hx=>lE (hG.ok x hx).check
 have id0:aK (l.take 0) ((bV l t).take 0)= []:=by rw [List.take_zero,List.take_zero];unfold aK;rfl
 obtain ⟨iv,ov,rfl,hi,ho,hv⟩:=ht
 refine aF3 rfl ?_
 unfold tR
 refine oy ?_
 repeat' (first|refine go1 ?_|refine zg λ_ _=>?_|refine zi λ_ _=>?_|refine zD (d:=some 3) rfl rfl (fun bt wt xt bt' (rt:Row wt ⟨bt,0,none⟩ (aJ t iv ov)) ht0=>?_)|(refine zC (d:=some 9) rfl (eK (M:=M) (l:=l) _ (hG.ext (by exact fx)) (fun b hb=>nLt (hM b hb) (Ext.size (by exact fx))) (by omega)) ?_;rintro va w2 ⟨oa,x2⟩;have sa:SlR dC [] w2 va l:=(oa.sub (M':= []) (by simp)).sl (by simp);have x02:Unit→Ext w w2:=(fun _=>by exact fx);have s02:=(x02 ()).size;have i2:=hi.ext (x02 ());have r2:=rt.ext x2)|refine zG (d:=some 10) (E:=dC) (M:= []) (l:=l) rfl (SlR.ext sa (by exact fx)) ?_|refine zL rfl (fun h=>?_) (fun h=>?_)|(refine aI (fun (p:Nat × Value) w'=>Ext w2 w'∧p.1≤l.length∧Own bL T.string w2.heap.size w' p.2 (aK (l.take p.1) ((bV l t).take p.1))) (fun p=> [(3,.pointer (some ⟨bt,0,none⟩)),(5,p.2),(9,va),(10,.int .i64 (l.length:Nat)),(11,.int .i64 p.1)]) (fun p=>l.length - p.1) (0,.slice none 0 0) ⟨rfl,rfl,rfl,rfl,rfl,trivial⟩ ⟨Ext.refl _,by simp,by rw [id0];exact Own.nil _ _ _⟩ ?_;rintro ⟨i,v5⟩ ρ w3 ⟨x3,hi3,o3⟩;simp only at hi3 o3;dsimp only))
 ·have hil:i<l.length:=by omega
  have hxs:=(hsm _ (gMe hil)).ins
  have s3:=x3.size
  refine aM (d:=some 13) (E:=dC) (M:= []) rfl rfl (n:=i) (l:=l) (SlR.ext sa (by exact fx)) rfl hil (fun ad cs r4 he=>?_)
  obtain ⟨iv2,ov2,rfl,q1,q2,q3⟩:=he
  have i1:=q1.one
  have j2:=q2.one
  have r3:=r2.ext x3
  have i3:=i2.ext x3
  have hle:=jV (l.take i) ((bV l t).take i)
  have htl:(l.take i).length=i:=by rw [List.length_take];omega
  have x23:Unit→Ext w2 w3:=fun _=>x3
  clear x3
  have tl:∀w1,Ext w3 w1→sL F.replace_Conflicts_1 [.pointer (some ⟨bt,0,none⟩)] inR (fun cs=>.agg cs.toArray) [] w1 l[i].tx.ins (fun a=>t.ins.any fun b=>decide (a.p=b.p)):=fun w1 x1 x _ w' cs x2 hc=>by
   obtain ⟨bv,rfl,hw,_⟩:=hc
   exact bEv (M:=N) x bv iv ov w' hw.one (r3.ext (x1.trans x2)) (i3.ext (x1.trans x2)) hs
  repeat' (first|refine go1 ?_|refine zg λ_ _=>?_|refine zi λ_ _=>?_|refine zE (d':=7) (fun _=>rfl) rfl rfl (by simp [bC,i1,j2];exact ⟨rfl,rfl,rfl,rfl,rfl⟩) (fun b6 w6 x6 a6 (r6:Row w6 ⟨b6,0,none⟩ (bC l[i] iv2 ov2)) hb6=>?_)|(refine zC (d:=some 19) rfl (rH (l:=l[i].tx.ins) (M:= []) (g:=F.replace_Conflicts_1) (capl:= [_]) (p:=fun a=>t.ins.any fun b=>decide (a.p=b.p)) _ bLs (SlR.ext q1 (by exact fx)) (by omega) (tl _ (by exact fx))) ?_;rintro _ w7 ⟨rfl,x7⟩)|refine zM rfl (fun h=>?_) (fun h=>?_)|refine zI (d:=some 23) (cs:= [.string l[i].id]) rfl (fun b9 w9 x9 a9 hb9=>?_))
  ·have x39:Ext w3 w9:=by exact fx
   have s39:=x39.size
   refine kX (d:=some 24) (E:=bL) (v:=v5) (l2:= [l[i].id]) rfl (o3.ext x39) (by omega) rfl rfl (dX a9 rfl) rfl rfl (by simp only [List.length_cons,List.length_nil];omega) (fun v10 w10 o10 _ c10 hb10=>?_)
   have hh:gJ t l[i]=true:=h
   repeat' (first|refine go1 ?_|refine zg λ_ _=>?_|refine zi λ_ _=>?_)
   exact ⟨(i+1,v10),⟨rfl,rfl,rfl,rfl,rfl,trivial⟩,⟨(((x23 ()).trans x39).chg c10).mono (fun b hb=>.inr (o3.base b hb)),by simp only;omega,by simp only;rw [aRg hil,if_pos hh];exact o10⟩,by simp only;omega⟩
  ·have hh:¬gJ t l[i]=true:=by
    have h2:gJ t l[i]=false:=h
    rw [h2];simp
   exact ⟨(i+1,v5),⟨rfl,rfl,rfl,rfl,rfl,trivial⟩,⟨Ext.trans (x23 ()) (by exact fx),by simp only;omega,by simp only;rw [aRg hil,if_neg hh,List.append_nil];exact o3.ext (by exact fx)⟩,by simp only;omega⟩
 ·rw [tLe (by omega),tLe (by rw [←aL5];omega)] at o3
  exact aA rfl ⟨o3.lower s02,Ext.trans (x02 ()) (by exact fx)⟩
end
section
open Go Go.K
section
variable {P:Program} {d:Option Tmp} {r:KR} {K:Env→World→Prop} {ρ:Env} {w:World}
theorem aQj {x y:Operand} {a b:Int} (hx:ev ρ x=.int .i64 a) (hy:ev ρ y=.int .i64 b) (k:aF P r K (put ρ d (.int .i64 (max a b))) w):aF P (.cons ⟨d,.minmax true x [y],none⟩ r) K ρ w:=
 dH rfl (by
  have e:(if b>a then b else a)=max a b:=by split<;>omega
  simp only [KOp.fix,List.foldl_cons,List.foldl_nil,hx,hy,Option.bind_some,sE,if_true,e]) k
end
theorem Own.blk_lt {α:Type} {E:Enc α} {t:TypeId} {B:Nat} {w:World} {v:Value} {l:List α} (h:Own E t B w v l):∀b∈aB v,b<w.heap.size:=by
 rcases h with ⟨rfl,rfl⟩|⟨b,cap,junk,rfl,hB,hat,hl⟩<;>simp [aB]
 exact hat.lt
attribute [local irreducible] aF aP bG KOp.wp K.Spec u32 leS vnS str aR dE bS idT aO aE aQ idN bB cH bY bT cE eO bF cI aK kI fP bFb gZ bK
end
end Go.Proofs.YtgloknkcfchnlaaGreat
namespace Go.K
section
open Go
def eA (f:Int):Ent:=⟨bPu (idL 8) 0,str r80,f,69⟩
def eB (f:Int):Ent:=⟨bPu (idL 9) 0,str r90,f,69⟩
end
end Go.K
namespace Go.Proofs.YtgloknkcfchnlaaGreat
section
open Go Go.K
attribute [local irreducible] aF aP bG KOp.wp K.Spec u32 leS vnS str aR dE bS idT aO aE aQ idN bB cH bY bT cE eO
end
section
open Go Go.K
attribute [local irreducible] aF aP bG KOp.wp K.Spec u32 leS vnS str aR dE bS idT aO aE aQ idN bB cH bY bT cE eO bPu idL
attribute [local irreducible] eA eB
end
section
open Go Go.K
attribute [local irreducible] aF aP bG KOp.wp K.Spec u32 leS vnS str aR dE bS idT aO aE aQ idN bB cH bY bT cE eO
theorem bR.outs {t:TypeId} {B:Nat} {M M':List Nat} {w:World} {v:Value} {l:List TOut} (h:bR fS t B M w v l):bR fS t B M' w v l:=by
 obtain ⟨css,h1,h2⟩:=h
 exact ⟨css,h1,h2.mono fun _ _ hr=>hr⟩
end
section
open Go Go.K
attribute [local irreducible] aF aP bG KOp.wp K.Spec u32 leS vnS str aR dE bS idT aO aE aQ idN bB cH bY bT cE eO
end
end Go.Proofs.YtgloknkcfchnlaaGreat
