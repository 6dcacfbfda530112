/- The engine, part 24: what lies in a block by what it holds:  -/
import Derived.Test.YtgloknkcfchnlaaGreatZ34
set_option linter.unusedVariables false
set_option linter.unusedSimpArgs false
namespace Go.K
section
open Go
variable {α:Type} {E:R α} {M:List Nat} {w:World}
theorem bPb {b:Nat} {z:List Value} {t:TypeId} {a:Addr} {v:Value} (ha:At w b (.cells z.toArray t (0,0))) (hb:a.block=b) (h:w.cell? a=some v):v∈z:=by
 unfold World.cell? at h
 unfold At at ha
 rw [hb,ha] at h
 simp only [List.getElem?_toArray] at h
 have h:a.spot=none∧z[a.off]? =some v:=by simpa using h
 exact List.mem_of_getElem? h.2
theorem SlR.off {b:Nat} {z:List Value} {t:TypeId} {v:Value} {l:List α} (h:SlR E M w v l) (ha:At w b (.cells z.toArray t (0,0))) (hE:∀cs x,E.rel M w cs x→∃u r,cs=u::r∧u∉z) (hs:∀cs x,E.rel M w cs x→E.rel (b::M) w cs x):SlR E (b::M) w v l:=by
 obtain ⟨css,h1,h2,h3⟩:=h
 refine ⟨css,h1,h2.mono fun c x hr=>hs _ _ hr,fun hp b' hb' hm=>?_⟩
 rcases List.mem_cons.1 hm with rfl|hm
 ·have hlen:=h2.length
  have hc:0<css.length:=by omega
  obtain ⟨n,base,cap,rfl, -,hrow⟩:=h1
  have hk:=E.pos
  have hfl:0<((kA E.k E.pos).flat css).length:=by
   rw [Enc.flat_length]
   exact Nat.mul_pos hc E.pos
  obtain ⟨a,rfl,hr⟩:=hrow hfl
  obtain ⟨u,r,e,hu⟩:=hE _ _ (h2.get 0 hc (by omega))
  have h0:((kA E.k E.pos).flat css)[0]? =some u:=by
   cases css with
   |nil=>simp at hc
   |cons c css=>
    simp only [List.getElem_cons_zero] at e
    simp only [Enc.flat,List.flatMap_cons]
    show (c.1++_)[0]? =some u
    rw [e];rfl
  have hcell:=hr 0 u h0
  refine hu (bPb ha ?_ hcell)
  rw [add_block]
  simp only [aB,List.mem_singleton] at hb'
  exact hb'.symm
 ·exact h3 hp b' hb' hm
theorem aOt {b:Nat} {z:List Value} {ty:TypeId} {cs:List Value} {t:Tx} (h:txR.rel M w cs t) (ha:At w b (.cells z.toArray ty (0,0))) (hz:∀v∈z,(∀s,v≠.string s)∧∀n,v≠.int .i64 n):txR.rel (b::M) w cs t:=by
 obtain ⟨iv,ov,rfl,h1,h2,h3⟩:=h
 have hstr:∀{wv:Value} {l:List ByteArray},SlR pP M w wv l→SlR pP (b::M) w wv l:=fun hw=>hw.off ha (fun cs x hr=>⟨.string x, [],hr,fun hm=>(hz _ hm).1 x rfl⟩) (fun cs x hr=>hr)
 refine ⟨iv,ov,rfl,h1.off ha (fun cs x hr=>?_) (fun cs x hr=>?_),h2.off ha (fun cs x hr=>?_) (fun cs x hr=>hr),h3⟩
 ·obtain ⟨wv,rfl, -⟩:=hr
  exact ⟨_,_,rfl,fun hm=>(hz _ hm).1 x.p.s rfl⟩
 ·obtain ⟨wv,rfl,hw,hq⟩:=hr
  exact ⟨wv,rfl,hstr hw,hq⟩
 ·obtain ⟨rfl, -⟩:=hr
  exact ⟨_,_,rfl,fun hm=>(hz _ hm).2 x.v rfl⟩
end
section
open Go Go.Proofs.YtgloknkcfchnlaaGreat
def bH (f:Pt→Option Cn) (l:List Ent) (t:Tx) (h:Int):Int × Int × Int:=
 if (aV f l t h).2.1≠0 then (0,(aV f l t h).2) else if 0<(aK l (bV l t)).length then (0,15, -1) else
 if gD l t≠0 then (0,gD l t, -1) else ((aV f l t h).1,0, -1)
theorem aKc {f:Pt→Option Cn} {l:List Ent} {t:Tx} {h:Int} (h0:(aV f l t h).2.1≠0):bH f l t h=(0,(aV f l t h).2):=by unfold bH;rw [if_pos h0]
theorem aM4 {f:Pt→Option Cn} {l:List Ent} {t:Tx} {h:Int} (h0:(aV f l t h).2.1=0) (h1:0<(aK l (bV l t)).length):bH f l t h=(0,15, -1):=by
 unfold bH;rw [if_neg (fun q=>q h0),if_pos h1]
theorem aNi {f:Pt→Option Cn} {l:List Ent} {t:Tx} {h:Int} (h0:(aV f l t h).2.1=0) (h1:¬0<(aK l (bV l t)).length) (h2:gD l t≠0):bH f l t h=(0,gD l t, -1):=by
 unfold bH;rw [if_neg (fun q=>q h0),if_neg h1,if_pos h2]
theorem aMc {f:Pt→Option Cn} {l:List Ent} {t:Tx} {h:Int} (h0:(aV f l t h).2.1=0) (h1:¬0<(aK l (bV l t)).length) (h2:gD l t=0):bH f l t h=((aV f l t h).1,0, -1):=by
 unfold bH;rw [if_neg (fun q=>q h0),if_neg h1,if_neg (fun q=>q h2)]
theorem aMl {f:Pt→Option Cn} {l:List Ent} {t:Tx} {h:Int} (h0:(bH f l t h).2.1=0):(aV f l t h).2.1=0∧(aK l (bV l t)).length=0∧gD l t=0∧(bH f l t h).1=(aV f l t h).1∧(bH f l t h).2.2= -1:=by
 by_cases h1:(aV f l t h).2.1=0
 ·by_cases h2:0<(aK l (bV l t)).length
  ·rw [aM4 h1 h2] at h0;exact absurd h0 (show ¬(15:Int)=0 by decide)
  ·by_cases h3:gD l t=0
   ·have e:=aMc h1 h2 h3
    exact ⟨h1,by omega,h3,by rw [e],by rw [e]⟩
   ·rw [aNi h1 h2 h3] at h0;exact absurd h0 h3
 ·rw [aKc h1] at h0;exact absurd h0 h1
theorem aVh {f:Pt→Option Cn} {l:List Ent} {t:Tx} {h:Int} (h0:(bH f l t h).2.1=0):eO l t (bH f l t h).1=(l++ [mK t (bH f l t h).1],0):=by
 obtain ⟨h1,h2, -,h4, -⟩:=aMl h0
 obtain ⟨hc,hg,hh,hgd⟩:=fL h1
 rw [←h4] at hgd
 have hno:=aAp.1 h2
 have h8:(t.ins.any fun i=>l.any fun x=>spends x i.p)=false:=by
  rw [List.any_eq_false]
  intro b hb hx
  obtain ⟨x,hx,h5⟩:=List.any_eq_true.1 hx
  rw [List.any_eq_false] at hno
  exact hno x hx (aWx.2 ⟨b,hb,h5⟩)
 unfold eO
 rw [if_neg (fun q=>q hc),if_neg (by rw [hg];decide),if_neg (by rw [hgd];decide),if_neg (by
  intro q
  have:eU l (idT t)=true:=q
  rw [hh] at this;cases this),if_neg (by rw [h8];decide)]
def idS (t:Tx):ByteArray:=if aE t=0 then idT t else ⟨#[]⟩
theorem aPo (t:Tx):idV t=.tuple #[.string (idS t),.int .i64 (aE t)]:=by
 unfold idV idS
 split
 ·rename_i h;rw [h]
 ·rfl
def dP (f:Pt→Option Cn) (l:List Ent) (a:Tx) (h:Int):List Ent:=l++ [mK a (bH f l a h).1]
def kD (f:Pt→Option Cn) (l:List Ent) (a b:Tx) (h rate:Int):Int × Int:=
 if eU l (idS a)=true then (if (dU f l b h rate).1≠0 then ((dU f l b h rate).1,1) else (0, -1)) else
 if (bH f l a h).2.1≠0 then ((bH f l a h).2.1,0) else
 if ¬aK (dP f l a h) (bF (dP f l a h) b)= [idS a] then (4,1) else
 if (bH f (dP f l a h) b h).2.1≠0 then ((bH f (dP f l a h) b h).2.1,1) else
 if (bH f l a h).1+(bH f (dP f l a h) b h).1<dB rate (aO a+aO b) then (11, -1) else (0, -1)
def nI (f:Pt→Option Cn) (l:List Ent) (a b:Tx) (h rate:Int):List ByteArray:=if eU l (idS a)=true then cG f l b h rate else []
def aAr (f:Pt→Option Cn) (l:List Ent) (a b:Tx) (h rate:Int):List Ent:=
 if eU l (idS a)=true then cN f l b h rate else if (kD f l a b h rate).1=0 then dP f l a h++ [mK b (bH f (dP f l a h) b h).1] else l
section
variable {f:Pt→Option Cn} {l:List Ent} {a b:Tx} {h rate:Int}
theorem bEe (h1:eU l (idS a)=true):kD f l a b h rate=(if (dU f l b h rate).1≠0 then ((dU f l b h rate).1,1) else (0, -1))∧nI f l a b h rate=cG f l b h rate∧aAr f l a b h rate=cN f l b h rate:=by
 unfold kD nI aAr
 rw [if_pos h1,if_pos h1,if_pos h1];exact ⟨rfl,rfl,rfl⟩
theorem bM7 {c i:Int} (h1:¬eU l (idS a)=true) (e:kD f l a b h rate=(c,i)) (hc:c≠0):nI f l a b h rate= []∧aAr f l a b h rate=l:=by
 unfold nI aAr
 rw [if_neg h1,if_neg h1,e,if_neg hc];exact ⟨rfl,rfl⟩
theorem bFk (h1:¬eU l (idS a)=true) (h2:(bH f l a h).2.1≠0):kD f l a b h rate=((bH f l a h).2.1,0):=by
 unfold kD;rw [if_neg h1,if_pos h2]
theorem bJt (h1:¬eU l (idS a)=true) (h2:(bH f l a h).2.1=0) (h3:¬aK (dP f l a h) (bF (dP f l a h) b)= [idS a]):kD f l a b h rate=(4,1):=by
 unfold kD;rw [if_neg h1,if_neg (fun q=>q h2),if_pos h3]
theorem bA3 (h1:¬eU l (idS a)=true) (h2:(bH f l a h).2.1=0) (h3:aK (dP f l a h) (bF (dP f l a h) b)= [idS a]) (h4:(bH f (dP f l a h) b h).2.1≠0):kD f l a b h rate=((bH f (dP f l a h) b h).2.1,1):=by
 unfold kD;rw [if_neg h1,if_neg (fun q=>q h2),if_neg (fun q=>q h3),if_pos h4]
theorem bL5 (h1:¬eU l (idS a)=true) (h2:(bH f l a h).2.1=0) (h3:aK (dP f l a h) (bF (dP f l a h) b)= [idS a]) (h4:(bH f (dP f l a h) b h).2.1=0) (h5:(bH f l a h).1+(bH f (dP f l a h) b h).1<dB rate (aO a+aO b)):kD f l a b h rate=(11, -1):=by
 unfold kD;rw [if_neg h1,if_neg (fun q=>q h2),if_neg (fun q=>q h3),if_neg (fun q=>q h4),if_pos h5]
theorem aW3 (h1:¬eU l (idS a)=true) (h2:(bH f l a h).2.1=0) (h3:aK (dP f l a h) (bF (dP f l a h) b)= [idS a]) (h4:(bH f (dP f l a h) b h).2.1=0) (h5:¬(bH f l a h).1+(bH f (dP f l a h) b h).1<dB rate (aO a+aO b)):
  kD f l a b h rate=(0, -1)∧nI f l a b h rate= []∧aAr f l a b h rate=dP f l a h++ [mK b (bH f (dP f l a h) b h).1]:=by
 have e:kD f l a b h rate=(0, -1):=by unfold kD;rw [if_neg h1,if_neg (fun q=>q h2),if_neg (fun q=>q h3),if_neg (fun q=>q h4),if_neg h5]
 refine ⟨e,?_,?_⟩
 ·unfold nI;rw [if_neg h1]
 ·unfold aAr;rw [if_neg h1,e,if_pos rfl]
end
end
end Go.K
