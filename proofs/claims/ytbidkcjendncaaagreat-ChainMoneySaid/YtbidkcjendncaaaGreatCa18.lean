/- The engine, part 13: what came in, read at its type. The engine, part 18: what came in, nested. Contracts: a graph of any entries, as the laws of trimming make it; masked numbers. Contracts: the transaction of an act, of the laws of replacing. Contracts: a graph of any entries, as the laws of replacing make it. Contracts: dropping from a graph, beside blocks to which none of its entries leads. DER -/
import Derived.RowKit
import Derived.OpenShut
import Derived.Deep.Slices
import Derived.ChangeSame
import Derived.Shelf.Bits.Mul64
import Derived.Ground.SlgfProg
import Derived.Test.YtbidkcjendncaaaGreatProg
import Derived.Ground.NamesProg
import Derived.KernelRfl
import Derived.Test.YtbidkcjendncaaaGreatCa17
set_option linter.unusedVariables false
set_option linter.unusedSimpArgs false
section
namespace Go.K
open Go
def Reads (P:Program) (W:World) (t:TypeId) (cs:List Value):Prop:=
 ∃(H:Type) (enc:TypeId × Value→H) (base:Nat) (spare:Nat→Bool) (held:Bool) (fuel:Nat) (x:DataW H × List MemPlace),DataW.trod enc P W base spare held fuel t cs=some x
variable {P:Program} {W:World} {t:TypeId} {cs:List Value}
theorem reads_int {k:IntKind} (hu:P.underlying t=some (.int k)) (h:Reads P W t cs):∃n,cs= [.int k n]∧k.min≤n∧n≤k.max:=by
 obtain ⟨H,enc,base,spare,held,fuel,x,h⟩:=h
 obtain ⟨n,h1,_,h2⟩:=DataW.trod_int hu h
 exact ⟨n,h1,by simpa [Lit.wf] using h2⟩
theorem reads_bool (hu:P.underlying t=some .bool) (h:Reads P W t cs):∃b,cs= [.bool b]:=by
 obtain ⟨H,enc,base,spare,held,fuel,x,h⟩:=h
 obtain ⟨b,h1,_⟩:=DataW.trod_bool hu h
 exact ⟨b,h1⟩
theorem reads_string (hu:P.underlying t=some .string) (h:Reads P W t cs):∃s,cs= [.string s]∧s.size≤maxLen:=by
 obtain ⟨H,enc,base,spare,held,fuel,x,h⟩:=h
 obtain ⟨b,h1,_,h2⟩:=DataW.trod_string hu h
 exact ⟨b,h1,h2⟩
theorem reads_struct {fs:Array Field} (hu:P.underlying t=some (.struct fs)) (h:Reads P W t cs):cs.length=P.cellsOf t∧∀f∈fs.toList,Reads P W f.type ((cs.drop f.offset).take (P.cellsOf f.type)):=by
 obtain ⟨H,enc,base,spare,held,fuel,x,h⟩:=h
 obtain ⟨xs,n,_,rfl,hl,hlen,hf⟩:=DataW.trod_struct hu h
 refine ⟨hl,fun f hm=>?_⟩
 obtain ⟨i,hi,rfl⟩:=List.getElem_of_mem hm
 have h1:=hf i fs.toList[i] (by simp)
 cases hx:xs[i]? with
 |none=>exact absurd (List.getElem?_eq_none_iff.1 hx) (by simp at hi;omega)
 |some y=>rw [hx] at h1;exact ⟨H,enc,base,spare,held,n,y,h1⟩
theorem cells_row {base n:Nat} {a:Addr} {l:List Value} (h:W.cells? base a n=some l):l.length=n∧Row W a l:=by
 obtain ⟨_,h1,h2⟩:=World.cells?_some h
 refine ⟨h1,fun j v hj=>?_⟩
 rw [h2 j (by have:=(List.getElem?_eq_some_iff.1 hj).1;omega)];exact hj
theorem reads_slice {e:TypeId} (hu:P.underlying t=some (.slice e)) (h:Reads P W t cs):
  cs= [.slice none 0 0]∨∃(a:Addr) (len cap:Nat),cs= [.slice (some a) len cap]∧len≤cap∧cap≤maxLen∧∀i,i<len→∃c,c.length=P.cellsOf e∧Row W (a.add (i*P.cellsOf e)) c∧Reads P W e c:=by
 obtain ⟨H,enc,base,spare,held,fuel,x,h⟩:=h
 rcases Go.Deep.open_slice hu h with ⟨h1,_⟩|⟨a,len,cap,m,n,D,Pl,h1,_,hl,hm,rfl,_,hi⟩
 ·exact .inl h1
 ·refine .inr ⟨a,len,cap,h1,hl,hm,fun i hil=>?_⟩
  obtain ⟨c,h2,h3⟩:=hi i (by split<;>omega)
  have h4:=cells_row h2
  exact ⟨c,h4.1,h4.2,H,enc,base,spare,held,n,_,h3⟩
theorem row_append {a:Addr} {l l':List Value} (h:Row W a l) (h':Row W (a.add l.length) l'):Row W a (l++l'):=by
 intro j v hj
 by_cases hl:j<l.length
 ·rw [List.getElem?_append_left hl] at hj;exact h j v hj
 ·rw [List.getElem?_append_right (by omega)] at hj
  have:=h' _ v hj
  rwa [add_add,show l.length+(j - l.length)=j by omega] at this
end Go.K
end
section
namespace Go.K
open Go
variable {P:Program} {W:World} {t:TypeId}
theorem build_rel {α:Type} (E:R α) {a:Addr}:∀(n:Nat),(∀i,i<n→∃c x,Row W (a.add (i*E.k)) c∧E.rel [] W c x)→∃(css:List (Vec E.k)) (l:List α),css.length=n∧Row W a ((vecE E.k E.pos).flat css)∧E.all [] W css l
 |0,_=>⟨[], [],rfl,fun j v hj=>by simp [Enc.flat] at hj,.nil⟩
 |n+1,h=>by
  obtain ⟨css,l,h1,h2,h3⟩:=build_rel E n fun i hi=>h i (by omega)
  obtain ⟨c,x,hc,hx⟩:=h n (by omega)
  refine ⟨css++ [R.vec hx],l++ [x],by simp [h1],?_,h3.append (.cons hx .nil)⟩
  rw [Enc.flat_append]
  refine row_append h2 ?_
  rw [Enc.flat_length,h1]
  have e:(vecE E.k E.pos).flat [R.vec hx]=c:=by show c++ []=c;exact List.append_nil _
  rw [e];exact hc
theorem reads_slR {α:Type} (E:R α) {e:TypeId} {v:Value} (hu:P.underlying t=some (.slice e)) (hk:P.cellsOf e=E.k) (he:∀c,Reads P W e c→∃x,E.rel [] W c x) (h:Reads P W t [v]):∃l,SlR E [] W v l∧l.length≤maxLen:=by
 rcases reads_slice hu h with h1|⟨a,len,cap,h1,hl,hm,hi⟩
 ·simp at h1;subst h1
  exact ⟨[],SlR.nil _ _,by simp⟩
 ·simp at h1;subst h1
  obtain ⟨css,l,h2,h3,h4⟩:=build_rel (W:=W) E (a:=a) len fun i hil=>by
   obtain ⟨c,_,h4,h5⟩:=hi i hil
   obtain ⟨x,hx⟩:=he c h5
   exact ⟨c,x,by rw [←hk];exact h4,hx⟩
  subst h2
  exact ⟨l,⟨css,⟨Enc.flat_length _ css,some a,cap,rfl,hl,fun _=>⟨a,rfl,h3⟩⟩,h4,fun _ b _ hm=>by simp at hm⟩,by rw [←h4.length];omega⟩
def R.and {α:Type} (E:R α) (p:α→Prop):R α where
 k:=E.k
 pos:=E.pos
 ag:=E.ag
 rel:=fun M w cs x=>E.rel M w cs x∧p x
 len:=fun h=>E.len h.1
 one:=fun h=>E.one h.1
 step:=fun h c hL hM=>⟨E.step h.1 c hL hM,h.2⟩
theorem All2.right {α β:Type} {r:α→β→Prop} {q:β→Prop} (h:∀a b,r a b→q b):∀{l:List α} {m:List β},All2 r l m→∀b∈m,q b
 |_,_,.nil,b,hb=>by simp at hb
 |_,_,.cons h1 t,b,hb=>by
  rcases List.mem_cons.1 hb with rfl|hb
  ·exact h _ _ h1
  ·exact All2.right h t b hb
theorem SlR.both {α:Type} {E:R α} {p:α→Prop} {M:List Nat} {w:World} {v:Value} {l:List α} (h:SlR (E.and p) M w v l):SlR E M w v l∧∀x∈l,p x:=by
 obtain ⟨css,h1,h2,h3⟩:=h
 exact ⟨⟨css,h1,h2.mono fun _ _ h=>h.1,h3⟩,All2.right (fun _ _ h=>h.2) h2⟩
end Go.K
end
section
namespace Go.Proofs.YtbidkcjendncaaaGreat
open Go Go.K
attribute [local irreducible] regK codeK retK KOp.wp K.Spec u32 leS vnS str zero32 sha2 encT idT sizeT checkT grantB
end Go.Proofs.YtbidkcjendncaaaGreat
end
section
namespace Go.Proofs.YtbidkcjendncaaaGreat
open Go Go.K
attribute [local irreducible] regK codeK retK KOp.wp K.Spec u32 leS vnS str zero32 sha2 encT idT sizeT checkT grantB
theorem OwnR.outs {t:TypeId} {B:Nat} {M M':List Nat} {w:World} {v:Value} {l:List TOut} (h:OwnR outR t B M w v l):OwnR outR t B M' w v l:=by
 obtain ⟨css,h1,h2⟩:=h
 exact ⟨css,h1,h2.mono fun _ _ hr=>hr⟩
end Go.Proofs.YtbidkcjendncaaaGreat
end
section
namespace Go.Proofs.YtbidkcjendncaaaGreat
open Go Go.K
attribute [local irreducible] regK codeK retK KOp.wp K.Spec u32 leS vnS str zero32 sha2 encT idT sizeT checkT grantB
end Go.Proofs.YtbidkcjendncaaaGreat
end
section
namespace Go.Proofs.YtbidkcjendncaaaGreat
open Go Go.K
attribute [local irreducible] regK codeK retK KOp.wp K.Spec u32 leS vnS str zero32 sha2 encT idT sizeT checkT grantB
end Go.Proofs.YtbidkcjendncaaaGreat
end
section
namespace Go.Proofs
open Go.Shelf
def Tryz.lays264_ren:Go.Shelf.Ren:=⟨fun|264=>113|n=>n,fun|53=>184|46=>173|n=>n,fun|n=>n⟩
theorem Tryz.lays264 : Go.Proofs.Lays.n264 Tryz.prog Tryz.lays264_ren := {
  mixed := by kernel_rfl
  f264 := Tryz.func113.trans (congrArg some (by kernel_rfl))
  t46 := Tryz.underlying173
  a46 := Tryz.isAgg173
  z46 := Tryz.sizeOf173
  v46 := Tryz.zeroValue173
  t53 := Tryz.underlying184
  a53 := Tryz.isAgg184
  z53 := Tryz.sizeOf184
  v53 := Tryz.zeroValue184 }
open Go.RowKit Go.Lib in
theorem Tryz.bits_Mul64 (x y:Nat) (hx:x<18446744073709551616) (hy:y<18446744073709551616) (w:World):
  Calls Tryz.prog 113 #[.int .u64 x,.int .u64 y] w fun e w'=>e=.returned (.tuple #[.int .u64 ((x*y / 18446744073709551616:Nat):Int),.int .u64 ((x*y%18446744073709551616:Nat):Int)])∧w'=w:=Any.bits_Mul64 Tryz.lays264 x y hx hy w
end Go.Proofs
end
section
namespace Go.Proofs.YtbidkcjendncaaaGreat
open Go Go.K
attribute [local irreducible] regK codeK retK KOp.wp K.Spec u32 leS vnS str zero32 sha2
def intE:Enc Int:=⟨fun n=> [.int .i64 n],1,fun _=>rfl,by decide,by intro x v hv;simp at hv;subst hv;rfl⟩
end Go.Proofs.YtbidkcjendncaaaGreat
end
section
namespace Go.Proofs.YtbidkcjendncaaaGreat
open Go Go.K
attribute [local irreducible] regK codeK retK KOp.wp K.Spec u32 leS vnS str zero32 sha2 encT idT sizeT checkT grantB
end Go.Proofs.YtbidkcjendncaaaGreat
end
section
namespace Go.Proofs.YtbidkcjendncaaaGreat
open Go Go.K
section
variable {P:Program} {d:Option Tmp} {r:KR} {K:Env→World→Prop} {ρ:Env} {w:World}
end
theorem Own.blk_lt {α:Type} {E:Enc α} {t:TypeId} {B:Nat} {w:World} {v:Value} {l:List α} (h:Own E t B w v l):∀b∈blkOf v,b<w.heap.size:=by
 rcases h with ⟨rfl,rfl⟩|⟨b,cap,junk,rfl,hB,hat,hl⟩<;>simp [blkOf]
 exact hat.lt
attribute [local irreducible] regK codeK retK KOp.wp K.Spec u32 leS vnS str zero32 sha2 encT idT sizeT checkT grantB
end Go.Proofs.YtbidkcjendncaaaGreat
end
section
namespace Go.Proofs.YtbidkcjendncaaaGreat
open Go Go.K
attribute [local irreducible] regK codeK retK KOp.wp K.Spec u32 leS vnS str zero32 sha2 encT idT sizeT checkT grantB
def s9:ByteArray:=⟨#[1,1,0,0,0,0,0,0,0]⟩
end Go.Proofs.YtbidkcjendncaaaGreat
end
section
namespace Go.K
open Go
end Go.K
end
section
namespace Go.K
open Go
end Go.K
end
section
namespace Go.K
open Go
end Go.K
end
section
namespace Go.K
open Go
def sc9:List UInt8:= [1,1,0,0,0,0,0,0,0]
def oneM (L:List UInt8) (m:Nat):Tx:=⟨2, [⟨⟨str L,0⟩,4294967293, []⟩], [⟨1000,str sc9⟩],(m:Nat)⟩
def idL (n:Nat):List UInt8:=(List.range 32).map fun i=>UInt8.ofNat (n / 2^(i%8))^^^UInt8.ofNat i
def r80:List UInt8:= [25,42,22,115,193,51,64,181,222,26,82,10,253,151,117,98,228,107,119,5,141,58,45,0,248,199,16,181,194,251,33,230]
end Go.K
end
section
namespace Go.K
open Go
def eA (f:Int):Ent:=⟨oneM (idL 8) 0,str r80,f,69⟩
end Go.K
end
section
namespace Go.Proofs.YtbidkcjendncaaaGreat
open Go Go.K
attribute [local irreducible] regK codeK retK KOp.wp K.Spec u32 leS vnS str zero32 sha2 encT idT sizeT checkT grantB oneM idL
attribute [local irreducible] eA
end Go.Proofs.YtbidkcjendncaaaGreat
end
section
namespace Go.Proofs.YtbidkcjendncaaaGreat
open Go Go.K
attribute [local irreducible] regK codeK retK KOp.wp K.Spec u32 leS vnS str zero32 sha2 encT idT sizeT checkT grantB
end Go.Proofs.YtbidkcjendncaaaGreat
end
section
namespace Go.K
open Go Go.Proofs.YtbidkcjendncaaaGreat
end Go.K
end
section
namespace Go.Proofs.YtbidkcjendncaaaGreat
open Go Go.K
attribute [local irreducible] regK codeK retK KOp.wp K.Spec u32 leS vnS str zero32 sha2 encT idT sizeT checkT grantB
end Go.Proofs.YtbidkcjendncaaaGreat
end
section
namespace Go.Proofs.YtbidkcjendncaaaGreat
open Go Go.K
attribute [local irreducible] regK codeK retK KOp.wp K.Spec u32 leS vnS str zero32 sha2 encT idT sizeT checkT grantB
end Go.Proofs.YtbidkcjendncaaaGreat
end
section
namespace Go.Proofs.YtbidkcjendncaaaGreat
open Go Go.K
section
variable {P:Program} {d:Option Tmp} {r:KR} {K:Env→World→Prop} {ρ:Env} {w:World}
end
attribute [local irreducible] regK codeK retK KOp.wp K.Spec u32 leS vnS str zero32 sha2 encT idT sizeT checkT grantB
end Go.Proofs.YtbidkcjendncaaaGreat
end
section
namespace Go.Proofs.YtbidkcjendncaaaGreat
open Go Go.K
attribute [local irreducible] regK codeK retK KOp.wp K.Spec u32 leS vnS str zero32 sha2 encT idT sizeT checkT grantB
end Go.Proofs.YtbidkcjendncaaaGreat
end
section
namespace Go.K
open Go Go.Proofs.YtbidkcjendncaaaGreat
end Go.K
end
section
namespace Go.Proofs.YtbidkcjendncaaaGreat
open Go Go.K
attribute [local irreducible] regK codeK retK KOp.wp K.Spec u32 leS vnS str zero32 sha2 encT idT sizeT checkT grantB oneM idL
attribute [local irreducible] eA
end Go.Proofs.YtbidkcjendncaaaGreat
end
section
namespace Go.K
open Go
theorem pt_ext {p q:Pt} (h1:p.s=q.s) (h2:p.i=q.i):p=q:=by cases p;cases q;simp_all
end Go.K
end
section
namespace Go.Proofs.YtbidkcjendncaaaGreat
open Go Go.K
attribute [local irreducible] regK codeK retK KOp.wp K.Spec u32 leS vnS str zero32 sha2 encT idT sizeT checkT grantB
end Go.Proofs.YtbidkcjendncaaaGreat
end
section
namespace Go.Proofs.YtbidkcjendncaaaGreat
open Go Go.K
attribute [local irreducible] regK codeK retK KOp.wp K.Spec u32 leS vnS str zero32 sha2 encT idT sizeT checkT grantB
end Go.Proofs.YtbidkcjendncaaaGreat
end
section
namespace Go.Proofs.YtbidkcjendncaaaGreat
open Go Go.K
attribute [local irreducible] regK codeK retK KOp.wp K.Spec
theorem cformed_spec (p:Pt) (c:Cn) (w:World):K.Spec Tryz.prog F.coins_formed [p.val,c.val] w fun v w'=>v=.bool (formedB p c)∧Ext w w':=by
 refine s_coins_formed rfl ?_
 unfold k_coins_formed
 refine oy ?_
 repeat (first|refine go ?_|refine zg (fun _ _=>?_)|refine zi (fun _ _=>?_))
 refine st_box rfl rfl (fun b1 w1 x1 _ r1 _=>?_)
 repeat (first|refine go ?_|refine zg (fun _ _=>?_)|refine zi (fun _ _=>?_))
 refine st_box rfl rfl (fun b2 w2 x2 _ r2 _=>?_)
 repeat (first|refine go ?_|refine zg (fun _ _=>?_)|refine zi (fun _ _=>?_))
 have e32:((p.s.size:Int)=32)↔p.s.size=32:=by omega
 refine g_split rfl (fun h1=>?_) (fun h1=>?_)
 ·repeat (first|refine go ?_|refine zg (fun _ _=>?_)|refine zi (fun _ _=>?_))
  refine g_split rfl (fun h2=>?_) (fun h2=>?_)
  ·repeat (first|refine go ?_|refine zg (fun _ _=>?_)|refine zi (fun _ _=>?_))
   refine g_split rfl (fun h3=>?_) (fun h3=>?_)
   ·repeat (first|refine go ?_|refine zg (fun _ _=>?_)|refine zi (fun _ _=>?_))
    refine x_ret rfl ⟨congrArg Value.bool ?_,x1.trans x2⟩
    simp [formedB,e32.1 h1,h2,h3]
   ·repeat (first|refine go ?_|refine zg (fun _ _=>?_)|refine zi (fun _ _=>?_))
    refine x_ret rfl ⟨congrArg Value.bool ?_,x1.trans x2⟩
    simp [formedB,h3]
  ·repeat (first|refine go ?_|refine zg (fun _ _=>?_)|refine zi (fun _ _=>?_))
   refine x_ret rfl ⟨congrArg Value.bool ?_,x1.trans x2⟩
   simp [formedB,h2]
 ·repeat (first|refine go ?_|refine zg (fun _ _=>?_)|refine zi (fun _ _=>?_))
  refine x_ret rfl ⟨congrArg Value.bool ?_,x1.trans x2⟩
  have h1':¬p.s.size=32:=fun h=>h1 (e32.2 h)
  simp [formedB,h1']
theorem cnew_spec (w:World):K.Spec Tryz.prog F.coins_New [] w fun v w'=>∃b mb,v=.pointer (some ⟨b,0,none⟩)∧SetE T.coins_Set w' b mb []∧w.heap.size≤b∧w.heap.size≤mb∧Ext w w':=by
 refine s_coins_New rfl ?_
 unfold k_coins_New
 refine oy ?_
 repeat (first|refine go ?_|refine zg (fun _ _=>?_)|refine zi (fun _ _=>?_))
 refine st_makeMap (E:=ptK) (fv:=Cn.val) (fun mb w1 x1 hm hmb=>?_)
 repeat (first|refine go ?_|refine zg (fun _ _=>?_)|refine zi (fun _ _=>?_))
 refine st_box rfl rfl (fun b w2 x2 a2 r2 hb=>?_)
 repeat (first|refine go ?_|refine zg (fun _ _=>?_)|refine zi (fun _ _=>?_))
 exact x_ret rfl ⟨b,mb,rfl,⟨a2,hm.ext x2,Mon.nil⟩,Nat.le_trans x1.size hb,hmb,x1.trans x2⟩
theorem cget_spec {t:TypeId} {b mb:Nat} {m:List En} (p:Pt) (w:World) (h:SetE t w b mb m):K.Spec Tryz.prog F.coins_Set_Get [.pointer (some ⟨b,0,none⟩),p.val] w fun v w'=>v=.tuple #[(takeCoin m p).val,.bool (aget m p).isSome]∧Ext w w':=by
 have r:=h.row
 have hM:=h.2.1
 refine s_coins_Set_Get rfl ?_
 unfold k_coins_Set_Get
 refine oy ?_
 repeat' (first|(refine zD (d:=some 3) rfl rfl (fun b1 w1 x1 a1 (r1:Row w1 ⟨b1,0,none⟩ p.cs) hb1=>?_))|(refine zH (d:=some 4) (fun b2 w2 x2 a2 hb2=>?_);have s2:w.heap.size≤b2:=Nat.le_trans x1.size hb2)|(refine st_lookupOk (d:=some 17) (E:=ptK) (fv:=Cn.val) (k:=p) rfl rfl (MapE.ext (w:=w) (by exact fx) hM) rfl rfl (fun c hc=>?_) (fun hc=>?_))|(refine zH (d:=some 6) (fun b6 w6 x6 a6 hb6=>?_);have s6:w.heap.size≤b6:=Nat.le_trans (Ext.size (w:=w) (by exact fx)) hb6;have s26:w2.heap.size≤b6:=Nat.le_trans (Ext.size (w:=w2) (by exact fx)) hb6)|(first|refine go1 ?_|refine zg (fun _ _=>?_)|refine zi (fun _ _=>?_)))
 ·refine st_setN (w0:=w) (vs:=c.cs) (by exact fx) s6 a6 rfl rfl rfl rfl rfl (fun w7 x7 c7 a7 r7=>?_)
  have a2':=At.chg c7 (At.ext (w:=w2) (by exact fx) a2) (by have:=a2.lt;simp;omega)
  repeat (first|refine go1 ?_|refine zg (fun _ _=>?_)|refine zi (fun _ _=>?_))
  refine st_setN (w0:=w) (vs:=c.cs) (by exact fx) s2 a2' rfl rfl rfl rfl rfl (fun w9 x9 c9 a9 r9=>?_)
  repeat (first|refine go1 ?_|refine zg (fun _ _=>?_)|refine zi (fun _ _=>?_))
  exact x_ret (ret2 (rv_cell r9 rfl rfl) rv_tmp) ⟨by rw [takeCoin,hc];rfl,x9⟩
 ·refine st_setN (w0:=w) (vs:=cn0.cs) (by exact fx) s6 a6 rfl rfl rfl rfl rfl (fun w7 x7 c7 a7 r7=>?_)
  have a2':=At.chg c7 (At.ext (w:=w2) (by exact fx) a2) (by have:=a2.lt;simp;omega)
  repeat (first|refine go1 ?_|refine zg (fun _ _=>?_)|refine zi (fun _ _=>?_))
  refine st_setN (w0:=w) (vs:=cn0.cs) (by exact fx) s2 a2' rfl rfl rfl rfl rfl (fun w9 x9 c9 a9 r9=>?_)
  repeat (first|refine go1 ?_|refine zg (fun _ _=>?_)|refine zi (fun _ _=>?_))
  exact x_ret (ret2 (rv_cell r9 rfl rfl) rv_tmp) ⟨by rw [takeCoin,hc];rfl,x9⟩
set_option maxHeartbeats 1000000 in
theorem cput_spec {t:TypeId} {b mb:Nat} {m:List En} (p:Pt) (c:Cn) (w:World) (h:SetE t w b mb m):K.Spec Tryz.prog F.coins_Set_Put [.pointer (some ⟨b,0,none⟩),p.val,c.val] w fun v w'=>
  v=.int .i64 (putCode m p c)∧SetE t w' b mb (putMap m p c)∧Chg [b,mb] w w':=by
 have r:=h.row
 have hne:=h.ne
 have hb:=h.1.lt
 have hmb:=h.2.1.lt
 have hM:=h.2.1
 have fail:∀{w':World} {n:Int},Ext w w'→n≠0→putCode m p c=n→Value.int .i64 n=.int .i64 (putCode m p c)∧SetE t w' b mb (putMap m p c)∧Chg [b,mb] w w':=by
  intro w' n x hn hc
  refine ⟨by rw [hc],?_,Chg.mono x (by simp)⟩
  rw [putMap,if_neg (by rw [hc];exact hn)];exact h.ext x
 refine s_coins_Set_Put rfl ?_
 unfold k_coins_Set_Put
 refine oy ?_
 repeat' (first|(refine zD (d:=some 4) rfl rfl (fun b1 w1 x1 a1 (r1:Row w1 ⟨b1,0,none⟩ p.cs) hb1=>?_))|(refine zD (d:=some 5) rfl rfl (fun b2 w2 x2 a2 (r2:Row w2 ⟨b2,0,none⟩ c.cs) hb2=>?_))|(refine zC (d:=some 17) rfl (cformed_spec p c _) ?_;rintro _ w3 ⟨rfl,x3⟩)|(refine c_condB (x:=.tmp 14) rfl (fun hf=>?_) (fun hf=>?_))|(refine st_lookupOk (d:=some 25) (E:=ptK) (fv:=Cn.val) (k:=p) rfl rfl (MapE.ext (w:=w) (by exact fx) hM) rfl rfl (fun d hd=>?_) (fun hd=>?_))|(refine zH (d:=some 7) (fun b6 w6 x6 a6 hb6=>?_);have s6:w.heap.size≤b6:=Nat.le_trans (Ext.size (w:=w) (by exact fx)) hb6;have s26:w2.heap.size≤b6:=Nat.le_trans (Ext.size (w:=w2) (by exact fx)) hb6)|(refine st_setN (w0:=w) (n:=3) (vs:=d.cs) (by exact fx) s6 a6 rfl rfl rfl rfl rfl (fun w7 x7 c7 a7 r7=>?_))|(refine st_setN (w0:=w) (n:=3) (vs:=cn0.cs) (by exact fx) s6 a6 rfl rfl rfl rfl rfl (fun w7 x7 c7 a7 r7=>?_);replace r1:Row w7 ⟨b1,0,none⟩ p.cs:=Row.chg c7 (Row.ext (w:=w1) (by exact fx) r1) (by have:=a1.lt;have:=x2.size;simp;omega);replace r2:Row w7 ⟨b2,0,none⟩ c.cs:=Row.chg c7 (Row.ext (w:=w2) (by exact fx) r2) (by have:=a2.lt;simp;omega);have s01:=x1.size;clear x1 x2 x3 x6 c7 a6)|(refine zC (d:=some 37) rfl (add_spec (tot m) c.v _) ?_;rintro _ w8 ⟨rfl,rfl⟩)|(refine zN (p:=(if addOk (tot m) c.v=true then (0:Int) else 3)=0) rfl (fun he=>?_) (fun he=>?_))|(refine st_both ?_ ?_)|(first|refine go1 ?_|refine zg (fun _ _=>?_)|refine zi (fun _ _=>?_)))
 ·exact x_ret rfl (fail (by exact fx) (by decide) (putCode2 (by simpa using hf)))
 ·exact x_ret rfl (fail x7 (by decide) (putCode7 (by simpa using hf) hd))
 ·have hP:=putCode0 (by simpa using hf) hd h.2.2
  have ho:addOk (tot m) c.v=false:=by
   cases hx:addOk (tot m) c.v
   ·rfl
   ·rw [hx] at he;exact absurd rfl he
  rw [ho] at hP
  refine x_ret (v:=.int .i64 3) ?_ (fail (by exact fx) (by decide) hP)
  rw [ho];rfl
 all_goals
  have ho:addOk (tot m) c.v=true:=by
   cases hx:addOk (tot m) c.v
   ·rw [hx] at he;exact absurd he (by decide)
   ·rfl
  have hP:putCode m p c=0:=by rw [putCode0 (by simpa using hf) hd h.2.2,ho];rfl
  have hn:∀{w' w'':World},At w' b (.cells ([Value.map (some mb),.int .i64 (tot m)].set 1 (.int .i64 (if addOk (tot m) c.v=true then tot m+c.v else 0))).toArray t (0,0))→MapE ptK Cn.val w' mb (aset m p c)→Ext w' w''→SetE t w'' b mb (putMap m p c):=by
   intro w' w'' ha hM x
   rw [putMap,if_pos hP]
   rw [aset_none hd] at hM
   refine ⟨?_,hM.ext x,h.2.2.put hP⟩
   have:=ha.ext x
   rw [ho] at this
   have e:tot (m++ [(p,c)])=tot m+c.v:=by simp
   rw [e];exact this
  rename_i x78 w9 x89
  have x79:Ext w7 w9:=x78.trans x89
  have x09:Ext w w9:=x7.trans x79
  have h9:=h.ext x09
  have r19:=r1.ext x79
  have r29:=r2.ext x79
  have r9:=h9.row
  clear x7 x78 x89 x79 r1 r2 r r7 a7
  repeat' (first|(refine st_mapEntry (d:=some 51) (E:=ptK) (fv:=Cn.val) (k:=p) rfl rfl h9.2.1 rfl rfl (fun st w10 c10 hM10=>?_);have r210:Row w10 ⟨b2,0,none⟩ c.cs:=r29.chg c10 (by simp;omega);have a10:=h9.1.chg c10 (by simp;omega))|(refine st_entryStore (E:=ptK) (fv:=Cn.val) (k:=p) (v:=c) rfl rfl rfl hM10 (fun w11 c11 hM11=>?_);have a11:=a10.chg c11 (by simp;omega))|(first|refine go1 ?_|refine zg (fun _ _=>?_)|refine zi (fun _ _=>?_)))
  refine st_store (b:=b) (o:=1) rfl rfl rfl a11 (by simp) (fun w12 c12 a12=>?_)
  repeat (first|refine go1 ?_|refine zg (fun _ _=>?_)|refine zi (fun _ _=>?_))
  refine x_ret rfl ⟨by rw [hP];rfl,hn a12 (hM11.chg c12 (by simp;omega)) (Ext.refl _),?_⟩
  refine (x09.chg (c10.trans (c11.trans c12))).mono ?_
  intro y hy
  simp at hy ⊢
  omega
end Go.Proofs.YtbidkcjendncaaaGreat
end
section
namespace Go.Proofs.YtbidkcjendncaaaGreat
open Go Go.K
section
variable {P:Program} {d:Option Tmp} {r:KR} {K:Env→World→Prop} {ρ:Env} {w:World}
theorem st_invoke {x:Operand} {name:String} {args:List Operand} {t:TypeId} {u rv:Value} {fn:FuncId} {vs:List Value} {R:Value→World→Prop} (hx:ev ρ x=.iface t u) (hm:methodOf P t u name=some (fn,rv)) (hb:hasBody P fn=true) (ha:rv::args.map (ev ρ)=vs)
  (h:Go.K.Spec P fn vs w R) (k:∀v w',R v w'→regK P r K (put ρ d v) w'):regK P (.cons ⟨d,.invoke x name args,none⟩ r) K ρ w:=
 st_wp ⟨t,u,fn,rv,hx,hm,hb,by subst ha;exact h.mono fun e w' ⟨v,hv,hR⟩=>⟨v,hv,k v w' hR⟩⟩
theorem st_nilM {f:TypeId→Value→String→Bool} {x:Operand} {name:String} {t:TypeId} {u:Value} (hx:ev ρ x=.func (.method name) #[.iface t u] #[]) (hm:f t u name=true) (k:regK P r K (put ρ d (.func (.method name) #[.iface t u] #[])) w):regK P (.cons ⟨d,.nilM f x,none⟩ r) K ρ w:=
 st_fix rfl (by simp [KOp.fix,hx,hm]) k
end
theorem mo_of {t:TypeId} {u:Value} {s:String} (h:metOk Tryz.prog t u s=true):mo t u s=true:=by unfold mo;exact h
abbrev errno (c:Int):Value:=.iface T.api_Errno (.int .i64 c)
def ErrR (w:World):Nat→Value→Int→Int→Prop
 |0,v,c,a=>a= -1∧(c=0∧v=.nilIface∨c≠0∧v=errno c)
 |d+1,v,c,a=>ErrR w d v c a∨c≠0∧0≤a∧∃b u a',v=.iface T.P_api_Fault (.pointer (some ⟨b,0,none⟩))∧At w b (.cells [.int .i64 a,u].toArray T.api_Fault (0,0))∧ErrR w d u c a'
theorem ErrR.ext {w w':World} (x:Ext w w'):∀{d:Nat} {v:Value} {c a:Int},ErrR w d v c a→ErrR w' d v c a
 |0,_,_,_,h=>h
 |_+1,_,_,_,.inl h=>.inl (ErrR.ext x h)
 |_+1,_,_,_,.inr ⟨h1,h2,b,u,a',h3,h4,h5⟩=>.inr ⟨h1,h2,b,u,a',h3,h4.ext x,ErrR.ext x h5⟩
theorem ErrR.none_ (w:World) (d:Nat):ErrR w d .nilIface 0 (-1):=by
 induction d with
 |zero=>exact ⟨rfl,.inl ⟨rfl,rfl⟩⟩
 |succ d ih=>exact .inl ih
theorem ErrR.num (w:World) (d:Nat) {c:Int} (h:c≠0):ErrR w d (errno c) c (-1):=by
 induction d with
 |zero=>exact ⟨rfl,.inr ⟨h,rfl⟩⟩
 |succ d ih=>exact .inl ih
theorem ErrR.nil_iff {w:World}:∀{d:Nat} {v:Value} {c a:Int},ErrR w d v c a→(c=0→v=.nilIface∧a= -1)∧(c≠0→∃t u,v=.iface t u)
 |0,_,_,_,⟨h1,h2⟩=>by
  rcases h2 with ⟨h2,h3⟩|⟨h2,h3⟩
  ·exact ⟨fun _=>⟨h3,h1⟩,fun h=>absurd h2 h⟩
  ·exact ⟨fun h=>absurd h h2,fun _=>⟨_,_,h3⟩⟩
 |_+1,_,_,_,.inl h=>ErrR.nil_iff h
 |_+1,_,_,_,.inr ⟨h1,_,_,_,_,h3,_⟩=>⟨fun h=>absurd h h1,fun _=>⟨_,_,h3⟩⟩
def ViewR (w:World) (v:Value) (f:Pt→Option Cn):Prop:=(∃t u,v=.iface t u∧∀p:Pt,is32 p.i→∀w1,Ext w w1→∃fn rv,metOk Tryz.prog t u "Get" =true∧methodOf Tryz.prog t u "Get" =some (fn,rv)∧hasBody Tryz.prog fn=true∧
  K.Spec Tryz.prog fn [rv,.agg p.cs.toArray] w1 fun r w2=>∃c:Cn,r=.tuple #[.agg c.cs.toArray,.bool (f p).isSome]∧(f p).getD cn0=c∧Ext w1 w2)∧∀p c,f p=some c→c.s.size≤1000000
theorem ViewR.ext {w w':World} {v:Value} {f:Pt→Option Cn} (h:ViewR w v f) (x:Ext w w'):ViewR w' v f:=by
 obtain ⟨⟨t,u,e,h⟩,h2⟩:=h
 exact ⟨⟨t,u,e,fun p hp w1 x1=>h p hp w1 (x.trans x1)⟩,h2⟩
theorem ViewR.of_set {w:World} {b mb:Nat} {m:List En} (h:SetE T.coins_Set w b mb m) (hs:∀e∈m,e.2.s.size≤1000000):ViewR w (.iface T.P_coins_Set (.pointer (some ⟨b,0,none⟩))) (aget m):=by
 refine ⟨⟨_,_,rfl,fun p hp w1 x1=>⟨F.coins_Set_Get,.pointer (some ⟨b,0,none⟩),by kernel_rfl,by kernel_rfl,by kernel_rfl,?_⟩⟩,fun p c hc=>hs _ (aget_mem hc)⟩
 have:=cget_spec p w1 (h.ext x1)
 unfold K.Spec at this ⊢
 exact this.mono fun e w2 ⟨v,e1,e2,x2⟩=>⟨v,e1,takeCoin m p,e2,rfl,x2⟩
end Go.Proofs.YtbidkcjendncaaaGreat
end
section
namespace Go.Proofs.YtbidkcjendncaaaGreat
open Go Go.K
attribute [local irreducible] regK codeK retK KOp.wp K.Spec u32 leS vnS str zero32 sha2 encT idT sizeT checkT grantB
abbrev cZ:List Value:= [.int .i64 0,.string ⟨#[]⟩,.int .i64 0]
end Go.Proofs.YtbidkcjendncaaaGreat
end
section
namespace Go.Proofs.YtbidkcjendncaaaGreat
open Go Go.K
attribute [local irreducible] regK codeK retK KOp.wp K.Spec u32 leS vnS str zero32
theorem asub_spec (a b:Int) (ha:goodB a=true) (hb:goodB b=true) (h:b≤a) (w:World):K.Spec Tryz.prog F.amount_Sub [.int .i64 a,.int .i64 b] w fun r w'=>r=.tuple #[.int .i64 (a - b),.int .i64 0]∧Ext w w':=by
 have h1:=(goodB_iff a).1 ha
 have h2:=(goodB_iff b).1 hb
 refine s_amount_Sub rfl ?_
 unfold k_amount_Sub
 refine oy ?_
 repeat' (first|(refine zF (d:=some 7) (v:=.bool true) ((qG _).trans (by rw [ha])) ?_)|(refine zF (d:=some 11) (v:=.bool true) ((qG _).trans (by rw [hb])) ?_)|(refine zL (p:=b>a) rfl (fun h=>absurd h (by omega)) (fun _=>?_))|(first|refine go1 ?_|refine zg (fun _ _=>?_)|refine zi (fun _ _=>?_)))
 exact x_ret rfl ⟨rfl,Ext.refl _⟩
end Go.Proofs.YtbidkcjendncaaaGreat
end
section
namespace Go.Proofs.YtbidkcjendncaaaGreat
open Go Go.K
attribute [local irreducible] regK codeK retK KOp.wp K.Spec u32 leS vnS str zero32 numAt byteAt
theorem byteAt_get {s:ByteArray} {i:Nat} (h:i<s.size):byteAt s i=s[i].toNat:=by
 unfold byteAt
 rw [List.getD_eq_getElem?_getD,List.getElem?_eq_getElem (by simpa using h)]
 rfl
theorem shl8 {n:Nat} (h:n<256^7):binVal .shl (.int .u64 (n:Nat)) (.int .u64 8)=some (.int .u64 ((n*256:Nat):Int)):=by
 simp only [binVal,isShift,if_true]
 rw [if_neg (by decide)]
 show some (Value.int .u64 (IntKind.u64.wrap ((n:Int)*256)))=_
 rw [u64_wrap (by omega) (by omega)];rfl
theorem or8 {n b:Nat} (h:n<256^7) (hb:b<256):binVal .or (.int .u64 ((n*256:Nat):Int)) (.int .u64 (b:Nat))=some (.int .u64 ((b+256*n:Nat):Int)):=by
 simp only [binVal,isShift,Bool.false_eq_true,if_false,if_true,intBin,IntKind.bits]
 have e:(BitVec.ofInt 64 ((n*256:Nat):Int)|||BitVec.ofInt 64 (b:Nat)).toNat=b+256*n:=by
  rw [BitVec.toNat_or,BitVec.toNat_ofInt,BitVec.toNat_ofInt]
  rw [show (((n*256:Nat):Int)%((2^64:Nat):Int)).toNat=n<<<8 by rw [Nat.shiftLeft_eq];omega,show (((b:Nat):Int)%((2^64:Nat):Int)).toNat=b by omega]
  rw [←Nat.shiftLeft_add_eq_or_of_lt (by omega:b<2^8),Nat.shiftLeft_eq];omega
 exact (congrArg (fun x:Nat=>some (Value.int .u64 (IntKind.u64.wrap (x:Int)))) e).trans (congrArg (fun x=>some (Value.int .u64 x)) (u64_wrap (by omega) (by omega)))
set_option maxHeartbeats 400000 in
theorem oget_spec (s:ByteArray) (a k:Nat) (hk:k=1∨k=2∨k=4∨k=8) (hs:a+k≤s.size) (hm:s.size≤100000000) (w:World):K.Spec Tryz.prog F.octet_Get [.string s,.int .i64 (a:Nat),.int .i64 (k:Nat)] w fun r w'=>r=.tuple #[.int .u64 (numAt s a k:Nat),.bool true]∧Ext w w':=by
 have hk8:k≤8:=by omega
 refine s_octet_Get rfl ?_
 unfold k_octet_Get
 refine oy ?_
 repeat' (first|(first|refine go1 ?_|refine zg (fun _ _=>?_)|refine zi (fun _ _=>?_))|(refine zC (d:=some 11) rfl (known_spec k hk _) ?_;rintro _ w1 ⟨rfl,x1⟩)|(refine zJ (p:=(a:Int)<0) rfl (fun h=>absurd h (by omega)) (fun _=>?_))|(refine zL (p:=(a:Int)>(s.size:Int) - (k:Int)) rfl (fun h=>absurd h (by omega)) (fun _=>?_))|(refine c_loopV (fun (j:Nat) w'=>Ext w w'∧j≤k) (fun j=> [(0,.string s),(1,.int .i64 (a:Nat)),(8,.int .u64 (numAt s (a+k - j) j:Nat)),(9,.int .i64 ((a:Int)+(k:Int) - 1 - (j:Int)))]) (fun j=>k - j) 0 ⟨rfl,rfl,(by unfold numAt;rfl),congrArg (Value.int .i64) (by omega),trivial⟩ ⟨x1,by omega⟩ ?_;rintro j ρ w3 ⟨x3,hj⟩))
 refine zL (p:=(a:Int)+(k:Int) - 1 - (j:Int)≥(a:Int)) rfl (fun h=>?_) (fun h=>?_)
 ·have hjk:j<k:=by omega
  have hlt:=numAt_lt s j (a+k - j)
  have hp:256^j≤256^7:=Nat.pow_le_pow_right (by decide) (by omega)
  have hn7:numAt s (a+k - j) j<256^7:=Nat.lt_of_lt_of_le hlt hp
  have hi:a+k - 1 - j<s.size:=by omega
  have hb:=s[a+k - 1 - j].toNat_lt
  have e:numAt s (a+k - (j+1)) (j+1)=s[a+k - 1 - j].toNat+256*numAt s (a+k - j) j:=by
   conv=>lhs;unfold numAt
   rw [show a+k - (j+1)=a+k - 1 - j by omega,byteAt_get hi,show a+k - 1 - j+1=a+k - j by omega]
  generalize hN:numAt s (a+k - j) j=n at hn7 e hlt ⊢
  generalize hB:s[a+k - 1 - j].toNat=b at hb e
  have f35:=shl8 hn7
  have f40:=or8 hn7 hb
  repeat (first|(refine st_fixV (d:=some 35) (.int .u64 ((n*256:Nat):Int)) rfl f35 ?_)|(refine st_idxS (d:=some 38) (k:=.i64) (n:=a+k - 1 - j) rfl (congrArg (Value.int .i64) (by omega)) hi ?_;rw [hB])|(refine st_fixV (d:=some 39) (.int .u64 (b:Nat)) rfl (congrArg (fun n=>some (Value.int .u64 n)) (u64_wrap (by omega) (by omega))) ?_)|(refine st_fixV (d:=some 40) (.int .u64 ((b+256*n:Nat):Int)) rfl f40 ?_)|(first|refine go1 ?_|refine zg (fun _ _=>?_)|refine zi (fun _ _=>?_)))
  exact ⟨j+1,⟨rfl,rfl,congrArg (fun n:Nat=>Value.int .u64 n) e.symm,congrArg (Value.int .i64) (by omega),trivial⟩,⟨x3,by omega⟩,by omega⟩
 ·have e:j=k:=by omega
  subst e
  repeat (first|refine go1 ?_|refine zg (fun _ _=>?_)|refine zi (fun _ _=>?_))
  exact x_ret rfl ⟨congrArg (fun n:Nat=>Value.tuple #[.int .u64 (n:Int),.bool true]) (congrArg (fun z=>numAt s z j) (show a+j - j=a by omega)),x3⟩
theorem number_spec (s:ByteArray) (a k:Nat) (hk:k=1∨k=2∨k=4∨k=8) (hs:a+k≤s.size) (hm:s.size≤100000000) (w:World):K.Spec Tryz.prog F.lock_number [.string s,.int .i64 (a:Nat),.int .i64 (k:Nat)] w fun r w'=>r=.int .u64 (numAt s a k:Nat)∧Ext w w':=by
 refine s_lock_number rfl ?_
 unfold k_lock_number
 refine oy ?_
 repeat' (first|(first|refine go1 ?_|refine zg (fun _ _=>?_)|refine zi (fun _ _=>?_))|(refine zC (d:=some 13) rfl (oget_spec s a k hk hs hm _) ?_;rintro _ w1 ⟨rfl,x1⟩))
 exact x_ret rfl ⟨rfl,x1⟩
end Go.Proofs.YtbidkcjendncaaaGreat
end
section
namespace Go.Proofs.YtbidkcjendncaaaGreat
open Go Go.K
attribute [local irreducible] regK codeK retK KOp.wp K.Spec u32 leS vnS str zero32 numAt byteAt
theorem put1_spec (n:Nat) (hn:n<18446744073709551616) (w:World):K.Spec Tryz.prog F.octet_Put [.int .u64 (n:Nat),.int .i64 1] w fun r w'=>r=.string (leS n 1)∧Ext w w':=put_spec n 1 (by decide) hn w
theorem put2_spec (n:Nat) (hn:n<18446744073709551616) (w:World):K.Spec Tryz.prog F.octet_Put [.int .u64 (n:Nat),.int .i64 2] w fun r w'=>r=.string (leS n 2)∧Ext w w':=put_spec n 2 (by decide) hn w
theorem put4_spec (n:Nat) (hn:n<18446744073709551616) (w:World):K.Spec Tryz.prog F.octet_Put [.int .u64 (n:Nat),.int .i64 4] w fun r w'=>r=.string (leS n 4)∧Ext w w':=put_spec n 4 (by decide) hn w
def lputE (l:List Br):Int:=if l.length<1∨3<l.length then 6 else if l.all lowB then 0 else 3
set_option maxHeartbeats 1000000 in
theorem lput_spec {v : Value} {l : List Br} (w : World) (hv : SlE brE w v l) (ho : ∀ b ∈ l, BrOk b) : K.Spec Tryz.prog F.lock_Put [v] w fun r w' => ∃ s, r = .tuple #[.string s, .int .i64 (lputE l)] ∧ Ext w w' := by
  refine s_lock_Put rfl ?_
  unfold k_lock_Put
  refine oy ?_
  repeat' (first|(refine st_len (E := brE) (l := l) rfl (SlE.ext (w := w) (by exact fx) hv) ?_)|(refine zJ (p := ((l.length : Nat) : Int) < 1) rfl (fun h => ?_) (fun h => ?_))|(refine zL (p := ((l.length : Nat) : Int) > 3) rfl (fun h => ?_) (fun h => ?_))|(refine zH (d := some 4) (fun b w0 x0 a0 hb0 => ?_); have hW : BldT b b ⟨#[]⟩ w0 := (Bld.new (Nat.le_refl _) a0))|(refine st_fixV (d := some 17) (.int .u64 (l.length : Nat)) rfl (congrArg (fun n => some (Value.int .u64 n)) (u64_wrap (by omega) (by omega))) ?_)|(refine zC (d := some 18) rfl (put1_spec l.length (by omega) _) ?_; rintro _ w1 ⟨rfl, x1⟩)|(refine zC (d := some 19) rfl (wrs_spec (leS l.length 1) _ (by exact fx) (by decide) (by rw [leS_size]; decide)) ?_; rintro _ w2 ⟨hW2, rW, hS⟩; have xW := rW.ext (w0 := w) (by exact fx) hb0; replace hS : ((⟨#[]⟩ : ByteArray) ++ leS l.length 1).size ≤ 2000000 := (Nat.le_trans hS (by decide)); clear hW x0 x1)|(refine c_loopV (fun (p : Nat × ByteArray) w' => Ext w w' ∧ p.1 ≤ l.length ∧ BldT b b p.2 w' ∧ p.2.size ≤ 2000000 + 1000000 * p.1 ∧ (l.take p.1).all lowB = true) (fun p => [(4, .pointer (some ⟨b, 0, none⟩)), (20, v), (21, .int .i64 (l.length : Nat)), (22, .int .i64 p.1)]) (fun p => l.length - p.1) (0, _) ⟨rfl, rfl, rfl, rfl, trivial⟩ ⟨by exact fx, by simp, by exact fx, by simpa using hS, by simp⟩ ?_; rintro ⟨i, s⟩ ρ w3 ⟨x3, hi, hW3, hS3, ha⟩; simp only at hi hW3 hS3 ha; dsimp only)|(refine zL (p := ((i : Nat) : Int) < ((l.length : Nat) : Int)) rfl (fun h => ?_) (fun h => ?_))|(first|refine go1 ?_|refine zg (fun _ _=>?_)|refine zi (fun _ _=>?_)))
  · exact x_ret rfl ⟨_, by rw [lputE, if_pos (by omega)]; rfl, by exact fx⟩
  · exact x_ret rfl ⟨_, by rw [lputE, if_pos (by omega)]; rfl, by exact fx⟩
  · have hil : i < l.length := by omega
    have hok := ho _ (List.getElem_mem hil)
    have h1 := hok.tag
    have h2 := hok.delay
    have h3 := hok.height
    refine st_elemE (d := some 24) (E := brE) rfl rfl (n := i) (l := l) (hv.ext x3) rfl hil (fun ad r4 => ?_)
    have r4 : Row w3 ad [.int .u16 (l[i].tag : Nat), .int .u16 (l[i].delay : Nat), .int .u32 (l[i].height : Nat)] := r4
    have hb3 : w.heap.size ≤ b := hb0
    repeat' (first|(refine zE (d' := 6) (fun _=>rfl) rfl rfl rfl (fun b6 w6 x6 a6 (r6 : Row w6 ⟨b6, 0, none⟩ [.int .u16 (l[i].tag : Nat), .int .u16 (l[i].delay : Nat), .int .u32 (l[i].height : Nat)]) hb6=>?_); have hne : b6 ≠ b := (by have := hW3.lt; omega))|(first|refine go1 ?_|refine zg (fun _ _=>?_)|refine zi (fun _ _=>?_)))
    refine zL (p := ((l[i].height : Nat) : Int) > 1000000) rfl (fun h => ?_) (fun h => ?_)
    · repeat (first|refine go1 ?_|refine zg (fun _ _=>?_)|refine zi (fun _ _=>?_))
      refine x_ret rfl ⟨⟨#[]⟩, ?_, Ext.trans x3 x6⟩
      have e : lputE l = 3 := by
       rw [lputE, if_neg (by omega), if_neg]
       rw [List.all_eq_true]
       intro hall
       have := hall _ (List.getElem_mem hil)
       unfold lowB at this
       have := of_decide_eq_true this
       omega
      rw [e]; rfl
    · have hlow : (l.take (i + 1)).all lowB = true := by
        rw [List.take_succ_eq_append_getElem hil, List.all_append, ha]
        simp only [List.all_cons, List.all_nil, Bool.and_true, Bool.true_and]
        exact decide_eq_true (by omega)
      have hW6 : BldT b b s w6 := hW3.ext x6
      have x06 : Ext w w6 := x3.trans x6
      clear hW3 hW2 x6 x3 r4 xW rW
      repeat' (first|(refine zg (fun w7 x7 => ?_))|(refine zA ?_)|(refine st_both ?_ ?_)|(refine st_fixV (d := some 31) (.int .u64 (l[i].tag : Nat)) rfl (congrArg (fun n => some (Value.int .u64 n)) (u64_wrap (by omega) (by omega))) ?_)|(refine st_fixV (d := some 35) (.int .u64 (l[i].delay : Nat)) rfl (congrArg (fun n => some (Value.int .u64 n)) (u64_wrap (by omega) (by omega))) ?_)|(refine st_fixV (d := some 40) (.int .u64 (l[i].height : Nat)) rfl (congrArg (fun n => some (Value.int .u64 n)) (u64_wrap (by omega) (by omega))) ?_)|(refine zC (d := some 32) rfl (put2_spec l[i].tag (by omega) _) ?_; rintro _ w8 ⟨rfl, x8⟩)|(refine zC (d := some 36) rfl (put2_spec l[i].delay (by omega) _) ?_; rintro _ w9 ⟨rfl, x9⟩)|(refine zC (d := some 41) rfl (put4_spec l[i].height (by omega) _) ?_; rintro _ w10 ⟨rfl, x10⟩)|(refine st_catS (d := some 37) rfl rfl (by rw [leS_size, leS_size]; decide) ?_)|(refine st_catS (d := some 42) rfl rfl (by rw [ByteArray.size_append, leS_size, leS_size, leS_size]; decide) ?_)|(refine zC (d := some 43) rfl (wrs_spec (leS l[i].tag 2 ++ leS l[i].delay 2 ++ leS l[i].height 4) _ (by exact fx) (by omega) (by rw [ByteArray.size_append, ByteArray.size_append, leS_size, leS_size, leS_size]; decide)) ?_; rintro _ w11 ⟨hW11, rW11, hS11⟩; have xW11 := rW11.ext (w0 := w) (by exact fx) hb3)|(first|refine go1 ?_|refine zg (fun _ _=>?_)|refine zi (fun _ _=>?_)))
      all_goals exact ⟨(i + 1, _), ⟨rfl, rfl, rfl, rfl, trivial⟩, ⟨xW11, hil, hW11, Nat.le_trans hS11 (by omega), hlow⟩, by show l.length - (i + 1) < l.length - i; omega⟩
  · have ei : i = l.length := by omega
    subst ei
    rw [List.take_length] at ha
    repeat' (first|(first|refine go1 ?_|refine zg (fun _ _=>?_)|refine zi (fun _ _=>?_))|(refine zC (d := some 45) rfl (bstr_spec _ (by exact fx)) ?_; rintro _ w9 ⟨rfl, hW9, rW9⟩; have xW9 := rW9.ext (w0 := w) (by exact fx) hb0))
    exact x_ret rfl ⟨_, by rw [lputE, if_neg (by omega), if_pos ha]; rfl, by exact fx⟩
end Go.Proofs.YtbidkcjendncaaaGreat
end
