/- The engine, part 6: a drawn region by its orders; code; call -/
import Derived.Test.YtfebcajheojodaaGreatDoorZ5
set_option linter.unusedVariables false
set_option linter.unusedSimpArgs false
namespace Go.K
section
open Go
variable {P:Program} {ops:Array Oper}
def bOj (P:Program) [Quiet P] (ops:Array Oper) (ms:List Nat) (listed:Array Bool):Option Nat:=
 (Region.ready .any ops listed).find? fun i=>Region.free .any ops listed i&&(aH3 P ops i||(eA P ops i&&(List.range ops.size).all fun j=>j==i||listed.getD j true||eA P ops j||aAa P ops j||(ms.getD j 0).testBit i))
def alts (f:Nat→Option KR):List Nat→Option KR
 | []=>none
 | [i]=>f i
 |i::j::l=>(f i).bind fun a=>(alts f (j::l)).map (.both a ·)
def bBd (P:Program) [Quiet P] (n:Nat) (ops:Array Oper) (ms:List Nat):Nat→Array Bool→Option KR
 |0,listed=>if (Region.ready .any ops listed).isEmpty then some .nil else none
 |m+1,listed=>match bOj P ops ms listed with
  |some i=>(ops[i]?).bind fun o=>(lS P n ops o).bind fun ki=>(bBd P n ops ms m (listed.setIfInBounds i true)).map (.cons ki ·)
  |none=>match Region.ready .any ops listed with
   | []=>some .nil
   |r::rs=>alts (fun i=>(ops[i]?).bind fun o=>(lS P n ops o).bind fun ki=>(bBd P n ops ms m (listed.setIfInBounds i true)).map (.cons ki ·)) (r::rs)
theorem aG8 {f:Nat→Option KR} {K:Env→World→Prop} {ρ:Env} {w:World}:∀(l:List Nat) (r:KR),alts f l=some r→aO P r K ρ w→∀i∈l,∃ri,f i=some ri∧aO P ri K ρ w
 | [],r,h,_,i,hi=>by cases hi
 | [j],r,h,hr,i,hi=>by
  simp only [List.mem_singleton] at hi;subst hi
  exact ⟨r,h,hr⟩
 |j::k::l,r,h,hr,i,hi=>by
  simp only [alts,Option.bind_eq_some_iff,Option.map_eq_some_iff] at h
  obtain ⟨a,ha,b,hb,rfl⟩:=h
  rcases List.mem_cons.1 hi with rfl|hi
  ·exact ⟨a,ha,hr.1⟩
  ·exact aG8 (k::l) b hb hr.2 i hi
theorem bJd {ρ:Env} {w:World} {k k':Value→World→Prop} {o:KOp} (hk:∀v w',k v w'→k' v w') (h:o.wp P ρ w k):o.wp P ρ w k':=by
 cases o<;>simp only [KOp.wp] at h ⊢
 case box=>exact hk _ _ h
 case alloc=>exact hk _ _ h
 case store=>obtain ⟨a,h1,h2,h3,h4,h5⟩:=h;exact ⟨a,h1,h2,h3,h4,hk _ _ h5⟩
 case storeN=>obtain ⟨a,vs,h1,h2,h3,h4,h5,h6⟩:=h;exact ⟨a,vs,h1,h2,h3,h4,h5,hk _ _ h6⟩
 case call=>exact h.mono fun e w' ⟨v,hv,h2⟩=>⟨v,hv,hk _ _ h2⟩
 case callV=>obtain ⟨f,a,b,h1,h2,h3⟩:=h;exact ⟨f,a,b,h1,h2,h3.mono fun e w' ⟨v,hv,h2⟩=>⟨v,hv,hk _ _ h2⟩⟩
 case invoke=>obtain ⟨t,u,f,rv,h1,h2,h3,h4⟩:=h;exact ⟨t,u,f,rv,h1,h2,h3,h4.mono fun e w' ⟨v,hv,h2⟩=>⟨v,hv,hk _ _ h2⟩⟩
 case mapUpdate=>obtain ⟨r,es,c,f,h1,h2,h3,h4,h5⟩:=h;exact ⟨r,es,c,f,h1,h2,h3,h4,hk _ _ h5⟩
 case mapEntry=>
  obtain ⟨r,es,c,f,h1,h2,h3,h4,h5⟩:=h
  refine ⟨r,es,c,f,h1,h2,h3,h4,?_⟩
  cases f<;>exact hk _ _ h5
 case entryStore=>obtain ⟨r,es,c,kd,n,i,h1,h2,h3,h4,h5⟩:=h;exact ⟨r,es,c,kd,n,i,h1,h2,h3,h4,hk _ _ h5⟩
 case delete=>obtain ⟨r,es,c,f,h1,h2,h3,h4,h5⟩:=h;exact ⟨r,es,c,f,h1,h2,h3,h4,hk _ _ h5⟩
 case makeMap=>exact hk _ _ h
 case rangeMap=>obtain ⟨r,es,c,h1,h2,h3⟩:=h;exact ⟨r,es,c,h1,h2,hk _ _ h3⟩
 case nextMap=>
  obtain ⟨b,m,si,se,la,es,c,h1,h2,h3,h4,h5,h6,h7,h8⟩:=h
  exact ⟨b,m,si,se,la,es,c,h1,h2,h3,h4,h5,h6,fun e w' hw=>hk _ _ (h7 e w' hw),fun e he w' hw=>hk _ _ (h8 e he w' hw)⟩
 case entry=>obtain ⟨b,m,si,se,la,st,es,e,h1,h2,h3,h4,h5,h6⟩:=h;exact ⟨b,m,si,se,la,st,es,e,h1,h2,h3,h4,h5,hk _ _ h6⟩
 case buildSlice=>obtain ⟨cs,h1,h2⟩:=h;exact ⟨cs,h1,hk _ _ h2⟩
 case append=>
  obtain ⟨ba,sl,sc,n,nw,h1,h2,h3,h4⟩:=h
  refine ⟨ba,sl,sc,n,nw,h1,h2,fun hr=>?_,fun hr=>?_⟩
  ·have:=h3 hr
   cases ba with
   |none=>exact hk _ _ this
   |some a=>exact ⟨this.1,this.2.1,hk _ _ this.2.2⟩
  ·obtain ⟨old,q1,q2,q3⟩:=h4 hr
   exact ⟨old,q1,q2,fun c hc=>hk _ _ (q3 c hc)⟩
 case makeSlice=>obtain ⟨kd,ke,l,c,h1,h2,h3,h4,h5,h6,h7⟩:=h;exact ⟨kd,ke,l,c,h1,h2,h3,h4,h5,h6,hk _ _ h7⟩
 case copy=>obtain ⟨ba,dl,cp,n,nw,h1,h2,h3,h4,h5,h6⟩:=h;exact ⟨ba,dl,cp,n,nw,h1,h2,h3,h4,h5,hk _ _ h6⟩
 case bytesOf=>obtain ⟨s,h1,h2⟩:=h;exact ⟨s,h1,fun c hc w' q1 q2 q3 q4 q5 q6=>hk _ _ (h2 c hc w' q1 q2 q3 q4 q5 q6)⟩
 case strOf=>obtain ⟨a,n,c,bs,h1,h2,h3⟩:=h;exact ⟨a,n,c,bs,h1,h2,hk _ _ h3⟩
 case raw=>
  split at h
  ·exact hk _ _ h
  ·exact hk _ _ h
  ·exact h.mono fun e w' ⟨v,hv,h2⟩=>⟨v,hv,hk _ _ h2⟩
  ·exact h
 all_goals (obtain ⟨v,h1,h2⟩:=h;exact ⟨v,h1,hk _ _ h2⟩)
def aTr (n:Nat) (K:Env→World→Prop) (a:Act) (w:World):Prop:=∃ρ,Rep n a ρ∧K ρ w
theorem aDl {ρ:Env} {w:World} {k:Value→World→Prop} {o:KOp} (hst:o.isStill=true) (h:o.wp P ρ w k):∃v,o.rd ρ w=some v∧k v w:=by
 cases o<;>first|exact h|(simp [KOp.isStill,KOp.isFix] at hst;done)
theorem zR [Quiet P] {n:Nat} {ms:List Nat} {K:Env→World→Prop} (hm:pZ ops ms=true) (hsel:Region.noSelect ops=true):∀(fuel:Nat) (listed:Array Bool) (r:KR) (a:Act) (ρ:Env) (w:World),
  bBd P n ops ms fuel listed=some r→Closed ops listed→Rep n a ρ→aO P r K ρ w→yJ P ops (aTr n K) fuel listed a w
 |0,listed,r,a,ρ,w,ho,hc,hr,h=>by
  simp only [bBd] at ho
  split at ho
  ·rename_i he
   simp only [Option.some.injEq] at ho;subst ho
   exact ⟨by simpa using he,ρ,hr,h⟩
  ·cases ho
 |fuel+1,listed,r,a,ρ,w,ho,hc,hr,h=>by
  simp only [bBd] at ho
  split at ho
  ·rename_i i hi
   simp only [Option.bind_eq_some_iff,Option.map_eq_some_iff] at ho
   obtain ⟨oi,hoi,ki,hki,r',hr',rfl⟩:=ho
   have F:=aDo hki
   have hmem:=List.mem_of_find?_eq_some hi
   have hprop:=List.find?_some hi
   simp only [Bool.and_eq_true,Bool.or_eq_true,List.all_eq_true,List.mem_range,beq_iff_eq] at hprop
   obtain ⟨hfree,hkind⟩:=hprop
   have hst:eA P ops i=true:=by
    rcases hkind with hk|⟨hk,_⟩
    ·unfold aH3 at hk;unfold eA;rw [hoi] at hk ⊢;exact tZ hk
    ·exact hk
   have hcs:(aH P oi).isStill=true:=by unfold eA at hst;rw [hoi] at hst;exact hst
   simp only [aO,F.dst,F.op] at h
   obtain ⟨v,hyw,hrest⟩:∃v,((lT ρ ki.guard=true∧(aH P oi).rd ρ w=some v)∨(lT ρ ki.guard=false∧v=undef))∧aO P r' K (put ρ oi.dst v) w:=by
    by_cases hw:lT ρ ki.guard=true
    ·rw [if_pos hw] at h
     obtain ⟨v,hv,hk⟩:=aDl hcs h
     exact ⟨v,.inl ⟨hw,hv⟩,hk⟩
    ·rw [if_neg hw] at h
     exact ⟨undef,.inr ⟨by simpa using hw,rfl⟩,h⟩
   have hrep:Rep n (a.put oi.dst v) (put ρ oi.dst v):=by have:=F.put hr v;rwa [F.dst] at this
   have IH:=zR hm hsel fuel (listed.setIfInBounds i true) r' (a.put oi.dst v) (put ρ oi.dst v) w hr' (mC hc hmem) hrep hrest
   by_cases hfix:aH3 P ops i=true
   ·refine aC0 hoi (Region.noSelect_spec hsel) hst fuel listed a w (Region.free_spec hoi hfree) hmem ?_ IH
    rcases hyw with ⟨hw,hv⟩|⟨hw,rfl⟩
    ·refine .inl ⟨by rw [F.want a ρ hr];exact hw,fun w2=>?_⟩
     rw [F.exec hr]
     have hf:(aH P oi).isFix=true:=by unfold aH3 at hfix;rw [hoi] at hfix;exact hfix
     exact aB7 oi v hcs (by generalize aH P oi=ko at hf;cases ko<;>first|rfl|(simp [KOp.isFix] at hf)) (by rw [KOp.rd_fix hf];rw [KOp.rd_fix hf] at hv;exact hv)
    ·exact .inr ⟨by rw [F.want a ρ hr];exact hw,rfl⟩
   ·have hall:∀j,j<ops.size→j≠i→listed.getD j true=false→eA P ops j=false→aAa P ops j=true∨(ms.getD j 0).testBit i=true:=by
     rcases hkind with hk|⟨_,hk⟩
     ·exact absurd hk hfix
     ·intro j hj hji hun hsj
      rcases hk j hj with (((h1|h1)|h1)|h1)|h1
      ·exact absurd h1 hji
      ·rw [hun] at h1;cases h1
      ·rw [hsj] at h1;cases h1
      ·exact .inl h1
      ·exact .inr h1
    refine xU hm hoi (Region.noSelect_spec hsel) hst fuel listed a w hc (Region.free_spec hoi hfree) hall hmem (fun w2 hg=>?_) IH
    rcases hyw with ⟨hw,hv⟩|⟨hw,rfl⟩
    ·exact .inl ⟨by rw [F.want a ρ hr];exact hw,by rw [F.exec hr];exact pR oi v hcs (aY7 hg hv)⟩
    ·exact .inr ⟨by rw [F.want a ρ hr];exact hw,rfl⟩
  ·split at ho
   ·rename_i he
    simp only [Option.some.injEq] at ho;subst ho
    exact ⟨fun _=>⟨ρ,hr,h⟩,by rw [he];simp⟩
   ·rename_i q rs he
    refine ⟨fun h0=>(by rw [he] at h0;cases h0),fun i hi=>?_⟩
    rw [he] at hi
    have hmem:i∈Region.ready .any ops listed:=by rw [he];exact hi
    obtain ⟨ri,hri,hreg⟩:=aG8 _ _ ho h i hi
    simp only [Option.bind_eq_some_iff,Option.map_eq_some_iff] at hri
    obtain ⟨oi,hoi,ki,hki,r',hr',rfl⟩:=hri
    have F:=aDo hki
    have IH:∀v w',aO P r' K (put ρ oi.dst v) w'→yJ P ops (aTr n K) fuel (listed.setIfInBounds i true) (a.put oi.dst v) w':=fun v w' hk=>
     zR hm hsel fuel (listed.setIfInBounds i true) r' (a.put oi.dst v) (put ρ oi.dst v) w' hr' (mC hc hmem) (by have:=F.put hr v;rwa [F.dst] at this) hk
    simp only [aO,F.dst] at h hreg
    unfold aBq
    split
    ·rename_i hst
     have hcs:(aH P oi).isStill=true:=by unfold eA at hst;rw [hoi] at hst;exact hst
     by_cases hw:lT ρ ki.guard=true
     ·rw [if_pos hw,F.op] at hreg
      obtain ⟨v,hv,hk⟩:=aDl hcs hreg
      exact YieldsAt.stOp (v:=v) hoi (.inl ⟨by rw [F.want a ρ hr];exact hw,by rw [F.exec hr];exact pR oi v hcs hv⟩) (IH v w hk)
     ·rw [if_neg hw] at hreg
      exact YieldsAt.stOp (v:=undef) hoi (.inr ⟨by rw [F.want a ρ hr];simpa using hw,rfl⟩) (IH undef w hreg)
    ·unfold wpOp
     simp only [hoi]
     rw [F.want a ρ hr]
     split
     ·rename_i hw
      rw [if_pos hw] at hreg
      exact .inl (F.wp hr IH hreg)
     ·rename_i hw
      rw [if_neg hw] at hreg
      exact IH undef w hreg
def bKb (P:Program) [Quiet P] (ops:Array Oper) (ms:List Nat) (S listed:Array Bool):Option Nat:=
 (Region.ready .any ops listed).find? fun i=>S.getD i false&&(Region.free .any ops listed i&&(aH3 P ops i||(eA P ops i&&(List.range ops.size).all fun j=>j==i||listed.getD j true||eA P ops j||aAa P ops j||(ms.getD j 0).testBit i)))
def wY (P:Program) [Quiet P] (n:Nat) (ops:Array Oper) (ms:List Nat) (S:Array Bool):Nat→Array Bool→Option KR
 |0,listed=>if listed=S then some .nil else none
 |m+1,listed=>match bKb P ops ms S listed with
  |some i=>(ops[i]?).bind fun o=>(lS P n ops o).bind fun ki=>(wY P n ops ms S m (listed.setIfInBounds i true)).map (.cons ki ·)
  |none=>match Region.ready .any ops listed with
   | []=>none
   |r::rs=>alts (fun i=>(ops[i]?).bind fun o=>(lS P n ops o).bind fun ki=>(wY P n ops ms S m (listed.setIfInBounds i true)).map (.cons ki ·)) (r::rs)
theorem aAx [Quiet P] {n:Nat} {ms:List Nat} {S:Array Bool} {c:Nat} {Q:Act→World→Prop} {K:Env→World→Prop} (hm:pZ ops ms=true) (hsel:Region.noSelect ops=true) (hS:∀a ρ w,Rep n a ρ→K ρ w→yJ P ops Q c S a w):∀(fuel:Nat) (listed:Array Bool) (r:KR) (a:Act) (ρ:Env) (w:World),
  wY P n ops ms S fuel listed=some r→Closed ops listed→Rep n a ρ→aO P r K ρ w→yJ P ops Q (fuel+c) listed a w
 |0,listed,r,a,ρ,w,ho,hc,hr,h=>by
  simp only [wY] at ho
  split at ho
  ·rename_i he
   simp only [Option.some.injEq] at ho;subst ho;subst he
   rw [Nat.zero_add];exact hS a ρ w hr h
  ·cases ho
 |fuel+1,listed,r,a,ρ,w,ho,hc,hr,h=>by
  rw [Nat.add_right_comm fuel 1 c]
  simp only [wY] at ho
  split at ho
  ·rename_i i hi
   simp only [Option.bind_eq_some_iff,Option.map_eq_some_iff] at ho
   obtain ⟨oi,hoi,ki,hki,r',hr',rfl⟩:=ho
   have F:=aDo hki
   have hmem:=List.mem_of_find?_eq_some hi
   have hprop:=List.find?_some hi
   simp only [Bool.and_eq_true,Bool.or_eq_true,List.all_eq_true,List.mem_range,beq_iff_eq] at hprop
   obtain ⟨_,hfree,hkind⟩:=hprop
   have hst:eA P ops i=true:=by
    rcases hkind with hk|⟨hk,_⟩
    ·unfold aH3 at hk;unfold eA;rw [hoi] at hk ⊢;exact tZ hk
    ·exact hk
   have hcs:(aH P oi).isStill=true:=by unfold eA at hst;rw [hoi] at hst;exact hst
   simp only [aO,F.dst,F.op] at h
   obtain ⟨v,hyw,hrest⟩:∃v,((lT ρ ki.guard=true∧(aH P oi).rd ρ w=some v)∨(lT ρ ki.guard=false∧v=undef))∧aO P r' K (put ρ oi.dst v) w:=by
    by_cases hw:lT ρ ki.guard=true
    ·rw [if_pos hw] at h
     obtain ⟨v,hv,hk⟩:=aDl hcs h
     exact ⟨v,.inl ⟨hw,hv⟩,hk⟩
    ·rw [if_neg hw] at h
     exact ⟨undef,.inr ⟨by simpa using hw,rfl⟩,h⟩
   have hrep:Rep n (a.put oi.dst v) (put ρ oi.dst v):=by have:=F.put hr v;rwa [F.dst] at this
   have IH:=aAx hm hsel hS fuel (listed.setIfInBounds i true) r' (a.put oi.dst v) (put ρ oi.dst v) w hr' (mC hc hmem) hrep hrest
   by_cases hfix:aH3 P ops i=true
   ·refine aC0 hoi (Region.noSelect_spec hsel) hst (fuel+c) listed a w (Region.free_spec hoi hfree) hmem ?_ IH
    rcases hyw with ⟨hw,hv⟩|⟨hw,rfl⟩
    ·refine .inl ⟨by rw [F.want a ρ hr];exact hw,fun w2=>?_⟩
     rw [F.exec hr]
     have hf:(aH P oi).isFix=true:=by unfold aH3 at hfix;rw [hoi] at hfix;exact hfix
     exact aB7 oi v hcs (by generalize aH P oi=ko at hf;cases ko<;>first|rfl|(simp [KOp.isFix] at hf)) (by rw [KOp.rd_fix hf];rw [KOp.rd_fix hf] at hv;exact hv)
    ·exact .inr ⟨by rw [F.want a ρ hr];exact hw,rfl⟩
   ·have hall:∀j,j<ops.size→j≠i→listed.getD j true=false→eA P ops j=false→aAa P ops j=true∨(ms.getD j 0).testBit i=true:=by
     rcases hkind with hk|⟨_,hk⟩
     ·exact absurd hk hfix
     ·intro j hj hji hun hsj
      rcases hk j hj with (((h1|h1)|h1)|h1)|h1
      ·exact absurd h1 hji
      ·rw [hun] at h1;cases h1
      ·rw [hsj] at h1;cases h1
      ·exact .inl h1
      ·exact .inr h1
    refine xU hm hoi (Region.noSelect_spec hsel) hst (fuel+c) listed a w hc (Region.free_spec hoi hfree) hall hmem (fun w2 hg=>?_) IH
    rcases hyw with ⟨hw,hv⟩|⟨hw,rfl⟩
    ·exact .inl ⟨by rw [F.want a ρ hr];exact hw,by rw [F.exec hr];exact pR oi v hcs (aY7 hg hv)⟩
    ·exact .inr ⟨by rw [F.want a ρ hr];exact hw,rfl⟩
  ·split at ho
   ·cases ho
   ·rename_i q rs he
    refine ⟨fun h0=>(by rw [he] at h0;cases h0),fun i hi=>?_⟩
    rw [he] at hi
    have hmem:i∈Region.ready .any ops listed:=by rw [he];exact hi
    obtain ⟨ri,hri,hreg⟩:=aG8 _ _ ho h i hi
    simp only [Option.bind_eq_some_iff,Option.map_eq_some_iff] at hri
    obtain ⟨oi,hoi,ki,hki,r',hr',rfl⟩:=hri
    have F:=aDo hki
    have IH:∀v w',aO P r' K (put ρ oi.dst v) w'→yJ P ops Q (fuel+c) (listed.setIfInBounds i true) (a.put oi.dst v) w':=fun v w' hk=>
     aAx hm hsel hS fuel (listed.setIfInBounds i true) r' (a.put oi.dst v) (put ρ oi.dst v) w' hr' (mC hc hmem) (by have:=F.put hr v;rwa [F.dst] at this) hk
    simp only [aO,F.dst] at h hreg
    unfold aBq
    split
    ·rename_i hst
     have hcs:(aH P oi).isStill=true:=by unfold eA at hst;rw [hoi] at hst;exact hst
     by_cases hw:lT ρ ki.guard=true
     ·rw [if_pos hw,F.op] at hreg
      obtain ⟨v,hv,hk⟩:=aDl hcs hreg
      exact YieldsAt.stOp (v:=v) hoi (.inl ⟨by rw [F.want a ρ hr];exact hw,by rw [F.exec hr];exact pR oi v hcs hv⟩) (IH v w hk)
     ·rw [if_neg hw] at hreg
      exact YieldsAt.stOp (v:=undef) hoi (.inr ⟨by rw [F.want a ρ hr];simpa using hw,rfl⟩) (IH undef w hreg)
    ·unfold wpOp
     simp only [hoi]
     rw [F.want a ρ hr]
     split
     ·rename_i hw
      rw [if_pos hw] at hreg
      exact .inl (F.wp hr IH hreg)
     ·rename_i hw
      rw [if_neg hw] at hreg
      exact IH undef w hreg
theorem wP [Quiet P] {n:Nat} {ms:List Nat} {S:Array Bool}:∀(fuel:Nat) (listed:Array Bool) (r:KR),wY P n ops ms S fuel listed=some r→Closed ops listed→Closed ops S
 |0,listed,r,ho,hc=>by
  simp only [wY] at ho
  split at ho
  ·rename_i he;subst he;exact hc
  ·cases ho
 |fuel+1,listed,r,ho,hc=>by
  simp only [wY] at ho
  split at ho
  ·rename_i i hi
   simp only [Option.bind_eq_some_iff,Option.map_eq_some_iff] at ho
   obtain ⟨oi,hoi,ki,hki,r',hr',rfl⟩:=ho
   exact wP fuel _ r' hr' (mC hc (List.mem_of_find?_eq_some hi))
  ·split at ho
   ·cases ho
   ·rename_i q rs he
    have h1:∃ri:KR,((ops[q]?).bind fun o=>(lS P n ops o).bind fun ki=>(wY P n ops ms S fuel (listed.setIfInBounds q true)).map (KR.cons ki ·))=some ri:=by
     cases rs with
     |nil=>exact ⟨r,ho⟩
     |cons j l=>
      simp only [alts,Option.bind_eq_some_iff,Option.map_eq_some_iff] at ho
      obtain ⟨a,ha,_⟩:=ho
      exact ⟨a,by simp only [Option.bind_eq_some_iff,Option.map_eq_some_iff];exact ha⟩
    obtain ⟨ri,h1⟩:=h1
    simp only [Option.bind_eq_some_iff,Option.map_eq_some_iff] at h1
    obtain ⟨oi,hoi,ki,hki,r',hr',_⟩:=h1
    exact wP fuel _ r' hr' (mC hc (by rw [he];simp))
def bCo (P:Program) [Quiet P] (n:Nat) (ops:Array Oper) (ms:List Nat):List (Nat × Array Bool)→Nat→Array Bool→Option KR
 | [],fuel,listed=>bBd P n ops ms fuel listed
 |(d,S)::r,fuel,listed=>if d≤fuel then (wY P n ops ms S d listed).bind fun a=>(bCo P n ops ms r (fuel - d) S).map (.join a ·) else none
theorem aMd [Quiet P] {n:Nat} {ms:List Nat} {K:Env→World→Prop} (hm:pZ ops ms=true) (hsel:Region.noSelect ops=true):∀(plan:List (Nat × Array Bool)) (fuel:Nat) (listed:Array Bool) (r:KR) (a:Act) (ρ:Env) (w:World),
  bCo P n ops ms plan fuel listed=some r→Closed ops listed→Rep n a ρ→aO P r K ρ w→yJ P ops (aTr n K) fuel listed a w
 | [],fuel,listed,r,a,ρ,w,ho,hc,hr,h=>zR hm hsel fuel listed r a ρ w ho hc hr h
 |(d,S)::plan,fuel,listed,r,a,ρ,w,ho,hc,hr,h=>by
  simp only [bCo] at ho
  split at ho
  ·rename_i hd
   simp only [Option.bind_eq_some_iff,Option.map_eq_some_iff] at ho
   obtain ⟨ra,ha,rb,hb,rfl⟩:=ho
   have hcS:=wP d listed ra ha hc
   have:=aAx (c:=fuel - d) (Q:=aTr n K) (K:=aO P rb K) hm hsel (fun a ρ w hr h=>aMd hm hsel plan (fuel - d) S rb a ρ w hb hcS hr h) d listed ra a ρ w ha hc hr h
   rwa [show d+(fuel - d)=fuel by omega] at this
  ·cases ho
def bN3 (ops:Array Oper) (ms:List Nat) (non:List Nat) (k:Nat):Array Bool:=
 ((List.range ops.size).map fun i=>if non.contains i then decide (i<k) else non.all fun j=>decide (j<k)||!(ms.getD i 0).testBit j).toArray
def bPl (ms:List Nat) (non:List Nat) (k:Nat):Bool:=
 non.all fun j=>decide (j<k)||non.all fun i=>decide (k≤i)||(ms.getD j 0).testBit i
def cutAt (ms:List Nat) (non:List Nat):List Nat:=
 let ks:=non.filter fun k=>decide (0<k)&&bPl ms non k&&decide (non.head? ≠some k)
 let seg (a b:Nat):Nat:=(non.filter fun i=>decide (a≤i)&&decide (i<b)).length
 let bs:=0::ks
 (ks.zipIdx.filter fun (k,i)=>decide (1<seg (bs.getD i 0) k)||decide (1<seg k (ks.getD (i+1) 1000000))).map (·.1)
def bMv (ops:Array Oper) (ms:List Nat) (non:List Nat):List (Nat × Array Bool):=
 let Ss:=(cutAt ms non).map (bN3 ops ms non)
 let cnt (S:Array Bool):Nat:=(S.toList.filter id).length
 (Ss.zipIdx).map fun (S,i)=>(cnt S - (match i with|0=>0|j+1=>cnt (Ss.getD j #[])),S)
def bHg (P:Program) [Quiet P] (ops:Array Oper):List Nat:=(List.range ops.size).filter fun i=>!aH3 P ops i
def aJo (ops:Array Oper):List Nat:=
 ops.toList.foldl (fun ms o=>ms++ [o.after.toList.foldl (fun m e=>if Region.binds .any e then m|||2^e.on|||ms.getD e.on 0 else m) 0]) []
def aP8 (P:Program) [Quiet P] (n:Nat) (ops:Array Oper):Option KR:=
 if pZ ops (aJo ops)&&Region.noSelect ops then
  match bCo P n ops (aJo ops) (bMv ops (aJo ops) (bHg P ops)) ops.size (Array.replicate ops.size false) with
  |some r=>some r
  |none=>bBd P n ops (aJo ops) ops.size (Array.replicate ops.size false)
 else none
theorem aJk:Closed ops (Array.replicate ops.size false):=by
 intro j oj _ hl
 have:(Array.replicate ops.size false).getD j false=false:=by
  simp only [Array.getD_eq_getD_getElem?,Array.getElem?_replicate];split<;>rfl
 rw [this] at hl;cases hl
theorem aYv [Quiet P] {n:Nat} {id:Nat} {r:KR} {K:Env→World→Prop} {a:Act} {ρ:Env} {w:World} {Q:Exit→Act→World→Prop} (hmx:P.follows .mixedOrders=true) (hc:aP8 P n ops=some r) (hr:Rep n a ρ)
  (h:aO P r K ρ w.drew) (hQ:∀a w,aTr n K a w→Q .normal a w):(Code.region id ops true).wp P Q a w:=by
 unfold aP8 at hc
 rw [Option.ite_none_right_eq_some] at hc
 obtain ⟨h1,h2⟩:=hc
 simp only [Bool.and_eq_true] at h1
 split at h2
 ·rename_i r' hp
  simp only [Option.some.injEq] at h2;subst h2
  exact wp_region_any hmx (qV hQ _ _ _ _ (aMd h1.1 h1.2 _ _ _ _ a ρ _ hp aJk hr h))
 ·exact wp_region_any hmx (qV hQ _ _ _ _ (zR h1.1 h1.2 _ _ r a ρ _ h2 aJk hr h))
theorem aU0 [Quiet P] {n:Nat} {id:Nat} {r:KR} {K:Env→World→Prop} {a:Act} {ρ:Env} {w:World} {Q:Exit→Act→World→Prop} (hc:yX P n ops ops.toList=some r) (hr:Rep n a ρ)
  (h:aO P r K ρ w) (hQ:∀a w,aTr n K a w→Q .normal a w):(Code.region id ops false).wp P Q a w:=by
 refine Code.wp_mono (Q:=Nrm n K) ?_ (wp_region_list (bM6 ops.toList r a ρ w hc h hr))
 intro e a w hn
 cases e<;>first|exact hQ _ _ hn|exact hn.elim
def bG9 (S:Nat→Bool) (i:Nat):Nat→Bool:=fun j=>if j=i then true else S j
def aTw (P:Program) (I:(Nat→Bool)→Env→World→Prop) (S:Nat→Bool) (i:Nat) (k:KI) (ρ:Env) (w:World):Prop:=
 if lT ρ k.guard=true then k.op.wp P ρ w (fun v w'=>I (bG9 S i) (put ρ k.dst v) w') else I (bG9 S i) (put ρ k.dst undef) w
def bPh (P:Program) (l:List (KI × List Nat)) (Q:Env→World→Prop) (ρ:Env) (w:World):Prop:=
 ∃I:(Nat→Bool)→Env→World→Prop,I (fun _=>false) ρ w∧
  (∀(i:Nat) (h:i<l.length) (S:Nat→Bool) (ρ:Env) (w:World),S i=false→(∀d∈(l[i]).2,S d=true)→I S ρ w→aTw P I S i (l[i]).1 ρ w)∧
  ∀(S:Nat→Bool) (ρ:Env) (w:World),(∀i,i<l.length→S i=true)→I S ρ w→Q ρ w
def aLa (o:Oper):List Nat:=(o.after.toList.filter fun e=>Region.binds .any e).map (·.on)
def aDr (P:Program) [Quiet P] (n:Nat) (ops:Array Oper):List Oper→Option (List (KI × List Nat))
 | []=>some []
 |o::r=>(lS P n ops o).bind fun k=>(aDr P n ops r).map ((k,aLa o)::·)
def aK6:Nat→List Oper→Bool
 |_, []=>true
 |i,o::l=>(aLa o).all (fun d=>decide (d<i))&&aK6 (i+1) l
def aOf (P:Program) [Quiet P] (n:Nat) (ops:Array Oper):Option (List (KI × List Nat)):=
 if Region.noSelect ops&&aK6 0 ops.toList then aDr P n ops ops.toList else none
def bOf (P:Program) [Quiet P] (ops:Array Oper):Bool:=
 let ms:=aJo ops
 let non:=bHg P ops
 decide (14<((non.map fun j=>(non.filter fun i=>decide (i<j)&&!(eA P ops i&&eA P ops j)&&!(ms.getD j 0).testBit i).length).foldl (·+·) 0))
theorem aVs [Quiet P] {n:Nat}:∀(L:List Oper) (l:List (KI × List Nat)),aDr P n ops L=some l→l.length=L.length∧∀(i:Nat) (h:i<l.length) (h':i<L.length),lS P n ops L[i]=some (l[i]).1∧(l[i]).2=aLa L[i]
 | [],l,h=>by
  simp only [aDr,Option.some.injEq] at h;subst h
  exact ⟨rfl,fun i h=>absurd h (by simp)⟩
 |o::L,l,h=>by
  simp only [aDr,Option.bind_eq_some_iff,Option.map_eq_some_iff] at h
  obtain ⟨k,hk,l',hl',rfl⟩:=h
  obtain ⟨h1,h2⟩:=aVs L l' hl'
  refine ⟨by simp [h1],fun i hi hi'=>?_⟩
  cases i with
  |zero=>exact ⟨hk,rfl⟩
  |succ i=>exact h2 i (by simpa using hi) (by simpa using hi')
theorem aV9:∀(L:List Oper) (k:Nat),aK6 k L=true→∀(i:Nat) (h:i<L.length),∀d∈aLa L[i],d<k+i
 | [],_,_,i,h=>absurd h (by simp)
 |o::L,k,he,i,h=>by
  simp only [aK6,Bool.and_eq_true,List.all_eq_true,decide_eq_true_eq] at he
  cases i with
  |zero=>exact fun d hd=>he.1 d hd
  |succ i=>
   intro d hd
   have:=aV9 L (k+1) he.2 i (by simpa using h) d hd
   omega
def unl (m:Nat) (listed:Array Bool):Nat:=((List.range m).filter fun i=>!listed.getD i true).length
theorem aL8 {p q:Nat→Bool} {i:Nat}:∀{L:List Nat},L.Nodup→i∈L→p i=true→q i=false→(∀j,j≠i→q j=p j)→(L.filter q).length+1=(L.filter p).length
 | [],_,hi,_,_,_=>by cases hi
 |j::L,hn,hi,hp,hq,he=>by
  rw [List.nodup_cons] at hn
  by_cases e:j=i
  ·subst e
   have h2:L.filter q=L.filter p:=List.filter_congr fun k hk=>he k (fun e=>hn.1 (e▸hk))
   rw [List.filter_cons_of_pos hp,List.filter_cons_of_neg (by simp [hq]),h2,List.length_cons]
  ·have hi':i∈L:=(List.mem_cons.1 hi).resolve_left (fun h=>e h.symm)
   have ih:=aL8 hn.2 hi' hp hq he
   have hj:=he j e
   rw [List.filter_cons,List.filter_cons,hj]
   cases p j<;>simp<;>omega
theorem aSs {listed:Array Bool} (hs:listed.size=ops.size) (he:aK6 0 ops.toList=true) (h0:Region.ready .any ops listed= []):∀i,i<ops.size→listed.getD i false=true:=by
 intro i
 induction i using Nat.strongRecOn with
 |_ i ih=>
  intro hi
  cases hl:listed.getD i false with
  |true=>rfl
  |false=>
   exfalso
   have hmem:i∈Region.ready .any ops listed:=by
    rw [mem_ready]
    refine ⟨?_,ops[i],Array.getElem?_eq_getElem hi,fun e hm hb=>?_⟩
    ·simp only [Array.getD_eq_getD_getElem?,Array.getElem?_eq_getElem (show i<listed.size by omega),Option.getD_some] at hl ⊢
     exact hl
    ·have hd:e.on∈aLa ops[i]:=List.mem_map.2 ⟨e,List.mem_filter.2 ⟨by simpa using hm,hb⟩,rfl⟩
     have:=aV9 ops.toList 0 he i (by simpa using hi) e.on (by simpa using hd)
     exact ih e.on (by omega) (by omega)
   rw [h0] at hmem;cases hmem
theorem bD8 [Quiet P] {n:Nat} {l:List (KI × List Nat)} {K:Env→World→Prop} {I:(Nat→Bool)→Env→World→Prop} (hsel:Region.noSelect ops=true) (he:aK6 0 ops.toList=true) (hl:aDr P n ops ops.toList=some l)
  (hstep:∀(i:Nat) (h:i<l.length) (S:Nat→Bool) (ρ:Env) (w:World),S i=false→(∀d∈(l[i]).2,S d=true)→I S ρ w→aTw P I S i (l[i]).1 ρ w)
  (hend:∀(S:Nat→Bool) (ρ:Env) (w:World),(∀i,i<l.length→S i=true)→I S ρ w→K ρ w):
  ∀(fuel:Nat) (listed:Array Bool) (a:Act) (ρ:Env) (w:World),listed.size=ops.size→unl ops.size listed=fuel→Rep n a ρ→I (fun j=>listed.getD j false) ρ w→yJ P ops (aTr n K) fuel listed a w:=by
 obtain ⟨hlen,hat⟩:=aVs ops.toList l hl
 have hlen:l.length=ops.size:=by rw [hlen];simp
 intro fuel
 induction fuel with
 |zero=>
  intro listed a ρ w hs hu hr hI
  have hall:∀i,i<ops.size→listed.getD i true=true:=fun i hi=>by
   unfold unl at hu
   have h1:=List.length_eq_zero_iff.1 hu
   rw [List.filter_eq_nil_iff] at h1
   have:=h1 i (List.mem_range.2 hi)
   simpa using this
  have h0:Region.ready .any ops listed= []:=by
   rw [List.eq_nil_iff_forall_not_mem]
   intro j hj
   obtain ⟨h1,o,ho, -⟩:=mem_ready.1 hj
   rw [hall j (Array.getElem?_eq_some_iff.1 ho).1] at h1;cases h1
  exact ⟨h0,ρ,hr,hend _ ρ w (fun i hi=>aSs hs he h0 i (by omega)) hI⟩
 |succ fuel ih=>
  intro listed a ρ w hs hu hr hI
  refine ⟨fun h0=>⟨ρ,hr,hend _ ρ w (fun i hi=>aSs hs he h0 i (by omega)) hI⟩,fun i hi=>?_⟩
  obtain ⟨hun,oi,hoi,hdep⟩:=mem_ready.1 hi
  have hil:i<ops.size:=(Array.getElem?_eq_some_iff.1 hoi).1
  have hio:ops.toList[i]'(by simpa using hil)=oi:=by
   have:=(Array.getElem?_eq_some_iff.1 hoi).2
   simpa using this
  obtain ⟨hc,hd⟩:=hat i (by omega) (by simpa using hil)
  rw [hio] at hc hd
  have F:=aDo hc
  have hun':listed.getD i false=false:=by
   simp only [Array.getD_eq_getD_getElem?,Array.getElem?_eq_getElem (show i<listed.size by omega),Option.getD_some] at hun ⊢
   exact hun
  have hst:=hstep i (by omega) (fun j=>listed.getD j false) ρ w hun' (fun d hm=>by
   rw [hd] at hm
   obtain ⟨e,h1,rfl⟩:=List.mem_map.1 hm
   obtain ⟨h1,h2⟩:=List.mem_filter.1 h1
   exact hdep e (by simpa using h1) h2) hI
  have hset:(fun j=>(listed.setIfInBounds i true).getD j false)=bG9 (fun j=>listed.getD j false) i:=by
   funext j
   unfold bG9
   by_cases e:j=i
   ·subst e
    rw [if_pos rfl]
    simp [Array.getD_eq_getD_getElem?,show j<listed.size by omega]
   ·rw [if_neg e,getD_set_ne false (Ne.symm e)]
  have IH:∀v w',I (bG9 (fun j=>listed.getD j false) i) (put ρ oi.dst v) w'→yJ P ops (aTr n K) fuel (listed.setIfInBounds i true) (a.put oi.dst v) w':=fun v w' hI'=>by
   refine ih _ _ _ w' (by simp [hs]) ?_ (by have:=F.put hr v;rwa [F.dst] at this) (by rw [hset];exact hI')
   have:=aL8 (p:=fun i=>!listed.getD i true) (q:=fun j=>!(listed.setIfInBounds i true).getD j true) (i:=i) (L:=List.range ops.size) List.nodup_range (List.mem_range.2 hil) (by simp [hun]) (by simp [Array.getD_eq_getD_getElem?,show i<listed.size by omega]) (fun j hj=>by rw [getD_set_ne true (Ne.symm hj)])
   unfold unl at hu ⊢
   omega
  unfold aTw at hst
  simp only [F.dst] at hst
  unfold aBq
  split
  ·rename_i hst2
   have hcs:(aH P oi).isStill=true:=by unfold eA at hst2;rw [hoi] at hst2;exact hst2
   by_cases hw:lT ρ (l[i]'(by omega)).1.guard=true
   ·rw [if_pos hw,F.op] at hst
    obtain ⟨v,hv,hk⟩:=aDl hcs hst
    exact YieldsAt.stOp (v:=v) hoi (.inl ⟨by rw [F.want a ρ hr];exact hw,by rw [F.exec hr];exact pR oi v hcs hv⟩) (IH v w hk)
   ·rw [if_neg hw] at hst
    exact YieldsAt.stOp (v:=undef) hoi (.inr ⟨by rw [F.want a ρ hr];simpa using hw,rfl⟩) (IH undef w hst)
  ·unfold wpOp
   simp only [hoi]
   rw [F.want a ρ hr]
   split
   ·rename_i hw
    rw [if_pos hw] at hst
    exact .inl (F.wp hr IH hst)
   ·rename_i hw
    rw [if_neg hw] at hst
    exact IH undef w hst
theorem aXx [Quiet P] {n:Nat} {id:Nat} {l:List (KI × List Nat)} {K:Env→World→Prop} {a:Act} {ρ:Env} {w:World} {Q:Exit→Act→World→Prop} (hmx:P.follows .mixedOrders=true) (hc:aOf P n ops=some l) (hr:Rep n a ρ)
  (h:bPh P l K ρ w.drew) (hQ:∀a w,aTr n K a w→Q .normal a w):(Code.region id ops true).wp P Q a w:=by
 unfold aOf at hc
 rw [Option.ite_none_right_eq_some] at hc
 obtain ⟨h1,h2⟩:=hc
 simp only [Bool.and_eq_true] at h1
 obtain ⟨I,hI,hstep,hend⟩:=h
 have e0:∀(d:Bool) (j:Nat),j<ops.size→(Array.replicate ops.size false).getD j d=false:=fun d j hj=>by
  simp [Array.getD_eq_getD_getElem?,Array.getElem?_replicate,hj]
 have e1:(fun j=>(Array.replicate ops.size false).getD j false)=fun _=>false:=by
  funext j
  simp only [Array.getD_eq_getD_getElem?,Array.getElem?_replicate];split<;>rfl
 refine wp_region_any hmx (qV hQ _ _ _ _ (bD8 h1.1 h1.2 h2 hstep hend ops.size (Array.replicate ops.size false) a ρ _ (by simp) ?_ hr (by rw [e1];exact hI)))
 unfold unl
 rw [List.filter_eq_self.2 (fun i hi=>by rw [e0 true i (List.mem_range.1 hi)];rfl)]
 simp
inductive KC where
 |skip
 |reg (draw:Bool) (r:KR)
 |anyR (l:List (KI × List Nat))
 |seq (a b:KC)
 |cond (x:Operand) (a b:KC)
 |block (id:Nat) (c:KC)
 |loop (c:KC)
 |exit (id:Nat)
 |ret
 |raw (n:Nat) (c:Code)
def aU (P:Program):KC→(Exit→Env→World→Prop)→Env→World→Prop
 |.skip,K,ρ,w=>K .normal ρ w
 |.reg false r,K,ρ,w=>aO P r (K .normal) ρ w
 |.reg true r,K,ρ,w=>aO P r (K .normal) ρ w.drew
 |.anyR l,K,ρ,w=>bPh P l (K .normal) ρ w.drew
 |.seq a b,K,ρ,w=>aU P a (fun e ρ' w'=>match e with
  |.normal=>aU P b K ρ' w'
  |e=>K e ρ' w') ρ w
 |.cond x a b,K,ρ,w=>∃t,ev ρ x=.bool t∧(t=true→aU P a K ρ w)∧(t=false→aU P b K ρ w)
 |.block id c,K,ρ,w=>aU P c (fun e ρ' w'=>match e with
  |.exit id'=>if id'=id then K .normal ρ' w' else K (.exit id') ρ' w'
  |e=>K e ρ' w') ρ w
 |.loop c,K,ρ,w=>∃(I:Env→World→Prop) (μ:Env→World→Nat),I ρ w∧∀ρ w,I ρ w→aU P c (fun e ρ' w'=>match e with
  |.normal=>I ρ' w'∧μ ρ' w'<μ ρ w
  |e=>K e ρ' w') ρ w
 |.exit id,K,ρ,w=>K (.exit id) ρ w
 |.ret,K,ρ,w=>K .ret ρ w
 |.raw n c,K,ρ,w=>∀a,Rep n a ρ→c.wp P (fun e a' w'=>∃ρ',Rep n a' ρ'∧K e ρ' w') a w
def dU (P:Program) [Quiet P] (n:Nat):Code→KC
 |.skip=>.skip
 |.region id ops d=>if d&&bOf P ops then (match aOf P n ops with
  |some l=>.anyR l
  |none=>.raw n (.region id ops d)) else match (if d then aP8 P n ops else yX P n ops ops.toList) with
  |some r=>.reg d r
  |none=>.raw n (.region id ops d)
 |.seq a b=>.seq (dU P n a) (dU P n b)
 |.cond x a b=>if aKf n x then .cond x (dU P n a) (dU P n b) else .raw n (.cond x a b)
 |.block id c=>.block id (dU P n c)
 |.loop c=>.loop (dU P n c)
 |.exit id=>.exit id
 |.ret=>.ret
 |.scope c=>.raw n (.scope c)
 |c=>.raw n c
theorem bKo {σ:Type} {c:Code} {Q:Exit→Act→World→Prop} {a:Act} {w:World} (I:σ→Act→World→Prop) (μ:σ→World→Nat) (s:σ) (h₀:I s a w)
  (round:∀s a w,I s a w→c.wp P (Exit.then (fun a' w'=>∃s',I s' a' w'∧μ s' w'<μ s w) Q) a w):(Code.loop c).wp P Q a w:=by
 intro b k cs
 have key:∀n s a w,μ s w=n→I s a w→
   ∃e a' w',Q e a' w'∧Arrives P (lone (b.at a (.code c::.inLoop c::k)) cs w) b k cs e a' w':=by
  intro n
  induction n using Nat.strongRecOn with
  |_ n ih=>
   intro s a w hn hI
   obtain ⟨e,a₁,w₁,hq,harr⟩:=round s a w hI b (.inLoop c::k) cs
   cases e with
   |normal=>
    obtain ⟨s',hI₁,hlt⟩:=hq
    obtain ⟨e₂,a₂,w₂,hq₂,harr₂⟩:=ih (μ s' w₁) (hn▸hlt) s' a₁ w₁ rfl hI₁
    exact ⟨e₂,a₂,w₂,hq₂,.of_steps (Steps.trans harr (.one step_inLoop)) harr₂⟩
   |exit id=>exact ⟨_,a₁,w₁,hq,.pass (x:=.inLoop c) rfl (fun _ _=>.inl (by simp)) harr⟩
   |goto l=>exact ⟨_,a₁,w₁,hq,.pass (x:=.inLoop c) rfl (fun _ _=>.inl (by simp)) harr⟩
   |ret=>exact ⟨_,a₁,w₁,hq,.pass (x:=.inLoop c) rfl (fun _ _=>.inl (by simp)) harr⟩
   |panic ch=>exact ⟨_,a₁,w₁,hq,.pass (x:=.inLoop c) rfl (fun _ _=>.inl (by simp)) harr⟩
   |outgrown=>exact ⟨_,a₁,w₁,hq,.pass (x:=.inLoop c) rfl (fun _ _=>.inl (by simp)) harr⟩
 obtain ⟨e,a',w',hq,harr⟩:=key _ s a w rfl h₀
 exact ⟨e,a',w',hq,.of_steps (.one step_loop) harr⟩
theorem mG [Quiet P] {n:Nat} (hmx:P.follows .mixedOrders=true):∀(c:Code) (K:Exit→Env→World→Prop) (a:Act) (ρ:Env) (w:World),Rep n a ρ→aU P (dU P n c) K ρ w→c.wp P (fun e a' w'=>∃ρ',Rep n a' ρ'∧K e ρ' w') a w
 |.skip,K,a,ρ,w,hr,h=>wp_skip ⟨ρ,hr,h⟩
 |.region id ops d,K,a,ρ,w,hr,h=>by
  simp only [dU] at h
  split at h
  ·rename_i hd
   simp only [Bool.and_eq_true] at hd
   obtain ⟨rfl, -⟩:=hd
   split at h
   ·rename_i l hc
    exact aXx hmx hc hr h (fun a w hp=>hp)
   ·exact h a hr
  split at h
  ·rename_i r hc
   cases d with
   |true=>exact aYv hmx (by simpa using hc) hr h (fun a w hp=>hp)
   |false=>exact aU0 (by simpa using hc) hr h (fun a w hp=>hp)
  ·exact h a hr
 |.seq x y,K,a,ρ,w,hr,h=>by
  simp only [dU,aU] at h
  refine wp_seq (Code.wp_mono ?_ (mG hmx x _ a ρ w hr h))
  rintro e a' w' ⟨ρ',hr',hk⟩
  cases e<;>first|exact ⟨ρ',hr',hk⟩|exact mG hmx y K a' ρ' w' hr' hk
 |.cond x c d,K,a,ρ,w,hr,h=>by
  simp only [dU] at h
  split at h
  ·rename_i hx
   obtain ⟨t,ht,h1,h2⟩:=h
   refine wp_cond (t:=t) (by rw [hr.eval hx];exact ht) ?_
   cases t with
   |true=>exact mG hmx c K a ρ w hr (h1 rfl)
   |false=>exact mG hmx d K a ρ w hr (h2 rfl)
  ·exact h a hr
 |.block id c,K,a,ρ,w,hr,h=>by
  simp only [dU,aU] at h
  refine wp_block (Code.wp_mono ?_ (mG hmx c _ a ρ w hr h))
  rintro e a' w' ⟨ρ',hr',hk⟩
  cases e with
  |exit id'=>
   simp only [Exit.inBlock] at hk ⊢
   split
   ·rename_i he;rw [if_pos he] at hk;exact ⟨ρ',hr',hk⟩
   ·rename_i he;rw [if_neg he] at hk;exact ⟨ρ',hr',hk⟩
  |normal=>exact ⟨ρ',hr',hk⟩
  |ret=>exact ⟨ρ',hr',hk⟩
  |goto l=>exact ⟨ρ',hr',hk⟩
  |panic ch=>exact ⟨ρ',hr',hk⟩
  |outgrown=>exact ⟨ρ',hr',hk⟩
 |.loop c,K,a,ρ,w,hr,h=>by
  simp only [dU,aU] at h
  obtain ⟨I,μ,h0,hround⟩:=h
  refine bKo (fun ρ a w=>Rep n a ρ∧I ρ w) μ ρ ⟨hr,h0⟩ fun ρ a w ⟨hr,hI⟩=>?_
  refine Code.wp_mono ?_ (mG hmx c _ a ρ w hr (hround ρ w hI))
  rintro e a' w' ⟨ρ',hr',hk⟩
  cases e<;>first|exact ⟨ρ',hr',hk⟩|exact ⟨ρ',⟨hr',hk.1⟩,hk.2⟩
 |.exit id,K,a,ρ,w,hr,h=>wp_exit ⟨ρ,hr,h⟩
 |.ret,K,a,ρ,w,hr,h=>wp_ret ⟨ρ,hr,h⟩
 |.scope c,K,a,ρ,w,hr,h=>h a hr
 |.goto l,K,a,ρ,w,hr,h=>h a hr
 |.label l,K,a,ρ,w,hr,h=>h a hr
 |.rangeFunc f p x y,K,a,ρ,w,hr,h=>h a hr
 |.refuse s,K,a,ρ,w,hr,h=>h a hr
inductive RV where
 |tmp (t:Tmp)
 |cell (t:Tmp)
 |cellN (n:Nat) (t:Tmp)
def bMc (P:Program) (n:Nat):ResultVar→Option RV
 |.tmp t=>if t<n then some (.tmp t) else none
 |.cell a t=>if a<n then match sC P t with
  |some (some k)=>some (.cellN k a)
  |some none=>some (.cell a)
  |none=>none
  else none
def aW4 (P:Program) (n:Nat):List ResultVar→Option (List RV)
 | []=>some []
 |x::l=>(bMc P n x).bind fun r=>(aW4 P n l).map (r::·)
def aDq (P:Program) (fn:Func) (n:Nat):Option (List RV):=aW4 P n fn.results.toList
def aM2 (ρ:Env) (w:World):RV→Option Value
 |.tmp t=>some (ρ t)
 |.cell t=>match ρ t with
  |.pointer (some a)=>w.cell? a
  |_=>none
 |.cellN n t=>match ρ t with
  |.pointer (some a)=>(rdCells w a 0 n).map fun l=>.agg l.toArray
  |_=>none
def aE3 (ρ:Env) (w:World):List RV→Option (List Value)
 | []=>some []
 |x::l=>(aM2 ρ w x).bind fun v=>(aE3 ρ w l).map (v::·)
def aFb (ρ:Env) (w:World):List RV→Option Value
 | [t]=>aM2 ρ w t
 |ts=>(aE3 ρ w ts).map fun l=>.tuple l.toArray
def Spec (P:Program) (f:FuncId) (args:List Value) (w:World) (R:Value→World→Prop):Prop:=
 Calls P f args.toArray w fun e w'=>∃v,e=.returned v∧R v w'
def iZ (args:List Value):Env:=fun t=>args.getD t undef
def bQ (rs:List RV) (R:Value→World→Prop):Exit→Env→World→Prop
 |.normal,ρ,w|.ret,ρ,w=>∃v,aFb ρ w rs=some v∧R v w
 |_,_,_=>False
theorem bOb {n:Nat} {x:ResultVar} {r:RV} {v:Value} {a:Act} {ρ:Env} {w:World} (hr:bMc P n x=some r) (hrep:Rep n a ρ) (hv:aM2 ρ w r=some v):
  (match x with|.tmp t=>pure (a.tmps.getD t undef)|.cell b t=>(do loadVar t (←asAddr (a.tmps.getD b undef))):Sem Value).run P w=.ok v w:=by
 cases x with
 |tmp t=>
  simp only [bMc,Option.ite_none_right_eq_some,Option.some.injEq] at hr
  obtain ⟨ht,rfl⟩:=hr
  simp only [aM2,Option.some.injEq] at hv
  subst hv
  simp only [hrep.getD ht,Sem.run_pure]
 |cell b t=>
  simp only [bMc,Option.ite_none_right_eq_some] at hr
  obtain ⟨hb,hr⟩:=hr
  simp only [hrep.getD hb]
  split at hr
  ·rename_i k hk
   simp only [Option.some.injEq] at hr;subst hr
   simp only [aM2] at hv
   split at hv
   ·rename_i ad had
    obtain ⟨l,hl,rfl⟩:=Option.map_eq_some_iff.1 hv
    obtain ⟨h1,h2⟩:=sA hk w
    rw [had]
    simp [asAddr,loadVar,h1,h2,loadCells,run_loadCellsFrom k 0 #[] l hl]
   ·cases hv
  ·rename_i hk
   simp only [Option.some.injEq] at hr;subst hr
   simp only [aM2] at hv
   split at hv
   ·rename_i ad had
    rw [had]
    simp [asAddr,loadVar,rZ hk w,load,Sem.run,hv]
   ·cases hv
  ·cases hr
theorem aLm {fn:Func} {n:Nat} {rs:List RV} {v:Value} {a:Act} {ρ:Env} {w:World} (hr:aDq P fn n=some rs) (hrep:Rep n a ρ) (hv:aFb ρ w rs=some v):(results fn a.tmps).run P w=.ok v w:=by
 have key:∀(l:List ResultVar) (ts:List RV) (vs:List Value),aW4 P n l=some ts→aE3 ρ w ts=some vs→
   (l.mapM (m:=Sem) fun|.tmp t=>pure (a.tmps.getD t undef)|.cell b t=>do loadVar t (←asAddr (a.tmps.getD b undef))).run P w=.ok vs w:=by
  intro l
  induction l with
  |nil=>intro ts vs h1 h2;simp only [aW4,Option.some.injEq] at h1;subst h1;simp only [aE3,Option.some.injEq] at h2;subst h2;rfl
  |cons x l ih=>
   intro ts vs h1 h2
   simp only [aW4,Option.bind_eq_some_iff,Option.map_eq_some_iff] at h1
   obtain ⟨r,hr1,rs1,hrs,rfl⟩:=h1
   simp only [aE3,Option.bind_eq_some_iff,Option.map_eq_some_iff] at h2
   obtain ⟨v1,hv1,vs1,hvs,rfl⟩:=h2
   rw [List.mapM_cons]
   have h3:=bOb hr1 hrep hv1
   simp only [Sem.run_bind] at h3 ⊢
   cases x with
   |tmp t=>simp only at h3 ⊢;rw [h3];simp only [Result.andThen_ok,ih rs1 vs1 hrs hvs,Sem.run_pure]
   |cell b t=>simp only [Sem.run_bind] at h3 ⊢;rw [h3];simp only [Result.andThen_ok,ih rs1 vs1 hrs hvs,Sem.run_pure]
 unfold aDq at hr
 obtain ⟨vs,hvs,hout⟩:∃vs,aE3 ρ w rs=some vs∧v=(if h:vs.toArray.size=1 then vs.toArray[0] else .tuple vs.toArray):=by
  match rs,hv with
  | [],hv=>simp only [aFb,aE3,Option.map_some,Option.some.injEq] at hv;exact ⟨[],rfl,by simp [←hv]⟩
  | [t],hv=>simp only [aFb] at hv;exact ⟨[v],by simp [aE3,hv],by simp⟩
  |t::u::r,hv=>
   simp only [aFb,Option.map_eq_some_iff] at hv
   obtain ⟨vs,hvs,rfl⟩:=hv
   refine ⟨vs,hvs,?_⟩
   have hl:vs.length≠1:=by
    simp only [aE3,Option.bind_eq_some_iff,Option.map_eq_some_iff] at hvs
    obtain ⟨_,_,_,⟨_,_,_,_,rfl⟩,rfl⟩:=hvs
    simp
   simp [hl]
 have h2:=key fn.results.toList rs vs hr hvs
 unfold results
 rw [Array.mapM_eq_mapM_toList]
 simp only [Sem.run_bind,Sem.run_map]
 refine (congrArg (fun r:Result (List Value)=>(r.andThen fun l w'=>(Result.ok l.toArray w')).andThen fun vs w'=>((pure (if h:vs.size=1 then vs[0] else .tuple vs):Sem Value)).run P w') h2).trans ?_
 simp only [Result.andThen_ok,Sem.run_pure,hout]
theorem iS [Quiet P] {f:FuncId} {fn:Func} {c:Code} {n:Nat} {rs:List RV} {args:List Value} {w:World} {R:Value→World→Prop} {kc:KC} (hmx:P.follows .mixedOrders=true) (hf:P.funcs[f]? =some fn) (hb:fn.body=some c) (hn:fn.ntmps=n) (hrs:aDq P fn n=some rs)
  (hk:dU P n c=kc) (ha:args.length≤n) (h:aU P kc (bQ rs R) (iZ args) w):Spec P f args w R:=by
 subst hk
 have hrep:Rep n {tmps:=args.toArray++Array.replicate (fn.ntmps - args.toArray.size) undef,defers:= []} (iZ args):=by
  refine ⟨rfl,by simp [hn];omega,fun t ht=>?_⟩
  by_cases hlt:t<args.length
  ·simp [iZ,Array.getElem?_append,hlt]
  ·simp [iZ,Array.getElem?_append,hlt,hn]
   rw [Array.getElem?_replicate,if_pos (by omega)]
 refine calls_of_wp hf hb (Code.wp_mono ?_ (mG hmx c _ _ _ _ hrep h))
 rintro e a' w' ⟨ρ',hr',hk⟩
 cases e
 case normal=>obtain ⟨v,hv,hR⟩:=hk;exact ⟨hr'.defers,_,aLm hrs hr' hv,_,rfl,hR⟩
 case ret=>obtain ⟨v,hv,hR⟩:=hk;exact ⟨hr'.defers,_,aLm hrs hr' hv,_,rfl,hR⟩
 all_goals exact hk.elim
end
end Go.K
