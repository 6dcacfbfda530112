/- The engine, part 6: a drawn region by its orders; code; calls. -/
import Derived.Test.YtfebcajheojodaaGreatDoorDc5
set_option linter.unusedVariables false
set_option linter.unusedSimpArgs false
section
namespace Go.K
open Go
variable {P:Program} {ops:Array Oper}
def hoist (P:Program) [Quiet P] (ops:Array Oper) (ms:List Nat) (listed:Array Bool):Option Nat:=
 (Region.ready .any ops listed).find? fun i=>Region.free .any ops listed i&&(fixAt P ops i||(stillAt P ops i&&(List.range ops.size).all fun j=>j==i||listed.getD j true||stillAt P ops j||makerAt P ops j||(ms.getD j 0).testBit i))
def alts (f:Nat→Option KR):List Nat→Option KR
 | []=>none
 | [i]=>f i
 |i::j::l=>(f i).bind fun a=>(alts f (j::l)).map (.both a ·)
def tree (P:Program) [Quiet P] (n:Nat) (ops:Array Oper) (ms:List Nat):Nat→Array Bool→Option KR
 |0,listed=>if (Region.ready .any ops listed).isEmpty then some .nil else none
 |m+1,listed=>match hoist P ops ms listed with
  |some i=>(ops[i]?).bind fun o=>(compileI P n ops o).bind fun ki=>(tree P n ops ms m (listed.setIfInBounds i true)).map (.cons ki ·)
  |none=>match Region.ready .any ops listed with
   | []=>some .nil
   |r::rs=>alts (fun i=>(ops[i]?).bind fun o=>(compileI P n ops o).bind fun ki=>(tree P n ops ms m (listed.setIfInBounds i true)).map (.cons ki ·)) (r::rs)
theorem alts_sound {f:Nat→Option KR} {K:Env→World→Prop} {ρ:Env} {w:World}:∀(l:List Nat) (r:KR),alts f l=some r→regK P r K ρ w→∀i∈l,∃ri,f i=some ri∧regK P ri K ρ w
 | [],r,h,_,i,hi=>by cases hi
 | [j],r,h,hr,i,hi=>by
  simp only [List.mem_singleton] at hi;subst hi
  exact ⟨r,h,hr⟩
 |j::k::l,r,h,hr,i,hi=>by
  simp only [alts,Option.bind_eq_some_iff,Option.map_eq_some_iff] at h
  obtain ⟨a,ha,b,hb,rfl⟩:=h
  rcases List.mem_cons.1 hi with rfl|hi
  ·exact ⟨a,ha,hr.1⟩
  ·exact alts_sound (k::l) b hb hr.2 i hi
theorem wp_mono' {ρ:Env} {w:World} {k k':Value→World→Prop} {o:KOp} (hk:∀v w',k v w'→k' v w') (h:o.wp P ρ w k):o.wp P ρ w k':=by
 cases o<;>simp only [KOp.wp] at h ⊢
 case box=>exact hk _ _ h
 case alloc=>exact hk _ _ h
 case store=>obtain ⟨a,h1,h2,h3,h4,h5⟩:=h;exact ⟨a,h1,h2,h3,h4,hk _ _ h5⟩
 case storeN=>obtain ⟨a,vs,h1,h2,h3,h4,h5,h6⟩:=h;exact ⟨a,vs,h1,h2,h3,h4,h5,hk _ _ h6⟩
 case call=>exact h.mono fun e w' ⟨v,hv,h2⟩=>⟨v,hv,hk _ _ h2⟩
 case callV=>obtain ⟨f,a,b,h1,h2,h3⟩:=h;exact ⟨f,a,b,h1,h2,h3.mono fun e w' ⟨v,hv,h2⟩=>⟨v,hv,hk _ _ h2⟩⟩
 case invoke=>obtain ⟨t,u,f,rv,h1,h2,h3,h4⟩:=h;exact ⟨t,u,f,rv,h1,h2,h3,h4.mono fun e w' ⟨v,hv,h2⟩=>⟨v,hv,hk _ _ h2⟩⟩
 case mapUpdate=>obtain ⟨r,es,c,f,h1,h2,h3,h4,h5⟩:=h;exact ⟨r,es,c,f,h1,h2,h3,h4,hk _ _ h5⟩
 case mapEntry=>
  obtain ⟨r,es,c,f,h1,h2,h3,h4,h5⟩:=h
  refine ⟨r,es,c,f,h1,h2,h3,h4,?_⟩
  cases f<;>exact hk _ _ h5
 case entryStore=>obtain ⟨r,es,c,kd,n,i,h1,h2,h3,h4,h5⟩:=h;exact ⟨r,es,c,kd,n,i,h1,h2,h3,h4,hk _ _ h5⟩
 case delete=>obtain ⟨r,es,c,f,h1,h2,h3,h4,h5⟩:=h;exact ⟨r,es,c,f,h1,h2,h3,h4,hk _ _ h5⟩
 case makeMap=>exact hk _ _ h
 case rangeMap=>obtain ⟨r,es,c,h1,h2,h3⟩:=h;exact ⟨r,es,c,h1,h2,hk _ _ h3⟩
 case nextMap=>
  obtain ⟨b,m,si,se,la,es,c,h1,h2,h3,h4,h5,h6,h7,h8⟩:=h
  exact ⟨b,m,si,se,la,es,c,h1,h2,h3,h4,h5,h6,fun e w' hw=>hk _ _ (h7 e w' hw),fun e he w' hw=>hk _ _ (h8 e he w' hw)⟩
 case entry=>obtain ⟨b,m,si,se,la,st,es,e,h1,h2,h3,h4,h5,h6⟩:=h;exact ⟨b,m,si,se,la,st,es,e,h1,h2,h3,h4,h5,hk _ _ h6⟩
 case buildSlice=>obtain ⟨cs,h1,h2⟩:=h;exact ⟨cs,h1,hk _ _ h2⟩
 case append=>
  obtain ⟨ba,sl,sc,n,nw,h1,h2,h3,h4⟩:=h
  refine ⟨ba,sl,sc,n,nw,h1,h2,fun hr=>?_,fun hr=>?_⟩
  ·have:=h3 hr
   cases ba with
   |none=>exact hk _ _ this
   |some a=>exact ⟨this.1,this.2.1,hk _ _ this.2.2⟩
  ·obtain ⟨old,q1,q2,q3⟩:=h4 hr
   exact ⟨old,q1,q2,fun c hc=>hk _ _ (q3 c hc)⟩
 case makeSlice=>obtain ⟨kd,ke,l,c,h1,h2,h3,h4,h5,h6,h7⟩:=h;exact ⟨kd,ke,l,c,h1,h2,h3,h4,h5,h6,hk _ _ h7⟩
 case copy=>obtain ⟨ba,dl,cp,n,nw,h1,h2,h3,h4,h5,h6⟩:=h;exact ⟨ba,dl,cp,n,nw,h1,h2,h3,h4,h5,hk _ _ h6⟩
 case bytesOf=>obtain ⟨s,h1,h2⟩:=h;exact ⟨s,h1,fun c hc w' q1 q2 q3 q4 q5 q6=>hk _ _ (h2 c hc w' q1 q2 q3 q4 q5 q6)⟩
 case strOf=>obtain ⟨a,n,c,bs,h1,h2,h3⟩:=h;exact ⟨a,n,c,bs,h1,h2,hk _ _ h3⟩
 case raw=>
  split at h
  ·exact hk _ _ h
  ·exact hk _ _ h
  ·exact h.mono fun e w' ⟨v,hv,h2⟩=>⟨v,hv,hk _ _ h2⟩
  ·exact h
 all_goals (obtain ⟨v,h1,h2⟩:=h;exact ⟨v,h1,hk _ _ h2⟩)
def Post (n:Nat) (K:Env→World→Prop) (a:Act) (w:World):Prop:=∃ρ,Rep n a ρ∧K ρ w
theorem wp_still {ρ:Env} {w:World} {k:Value→World→Prop} {o:KOp} (hst:o.isStill=true) (h:o.wp P ρ w k):∃v,o.rd ρ w=some v∧k v w:=by
 cases o<;>first|exact h|(simp [KOp.isStill,KOp.isFix] at hst;done)
theorem tree_sound [Quiet P] {n:Nat} {ms:List Nat} {K:Env→World→Prop} (hm:checkMasks ops ms=true) (hsel:Region.noSelect ops=true):∀(fuel:Nat) (listed:Array Bool) (r:KR) (a:Act) (ρ:Env) (w:World),
  tree P n ops ms fuel listed=some r→Closed ops listed→Rep n a ρ→regK P r K ρ w→anyM P ops (Post n K) fuel listed a w
 |0,listed,r,a,ρ,w,ho,hc,hr,h=>by
  simp only [tree] at ho
  split at ho
  ·rename_i he
   simp only [Option.some.injEq] at ho;subst ho
   exact ⟨by simpa using he,ρ,hr,h⟩
  ·cases ho
 |fuel+1,listed,r,a,ρ,w,ho,hc,hr,h=>by
  simp only [tree] at ho
  split at ho
  ·rename_i i hi
   simp only [Option.bind_eq_some_iff,Option.map_eq_some_iff] at ho
   obtain ⟨oi,hoi,ki,hki,r',hr',rfl⟩:=ho
   have F:=fits_of hki
   have hmem:=List.mem_of_find?_eq_some hi
   have hprop:=List.find?_some hi
   simp only [Bool.and_eq_true,Bool.or_eq_true,List.all_eq_true,List.mem_range,beq_iff_eq] at hprop
   obtain ⟨hfree,hkind⟩:=hprop
   have hst:stillAt P ops i=true:=by
    rcases hkind with hk|⟨hk,_⟩
    ·unfold fixAt at hk;unfold stillAt;rw [hoi] at hk ⊢;exact isStill_of_fix hk
    ·exact hk
   have hcs:(compileOp P oi).isStill=true:=by unfold stillAt at hst;rw [hoi] at hst;exact hst
   simp only [regK,F.dst,F.op] at h
   obtain ⟨v,hyw,hrest⟩:∃v,((wantK ρ ki.guard=true∧(compileOp P oi).rd ρ w=some v)∨(wantK ρ ki.guard=false∧v=undef))∧regK P r' K (put ρ oi.dst v) w:=by
    by_cases hw:wantK ρ ki.guard=true
    ·rw [if_pos hw] at h
     obtain ⟨v,hv,hk⟩:=wp_still hcs h
     exact ⟨v,.inl ⟨hw,hv⟩,hk⟩
    ·rw [if_neg hw] at h
     exact ⟨undef,.inr ⟨by simpa using hw,rfl⟩,h⟩
   have hrep:Rep n (a.put oi.dst v) (put ρ oi.dst v):=by have:=F.put hr v;rwa [F.dst] at this
   have IH:=tree_sound hm hsel fuel (listed.setIfInBounds i true) r' (a.put oi.dst v) (put ρ oi.dst v) w hr' (closed_set hc hmem) hrep hrest
   by_cases hfix:fixAt P ops i=true
   ·refine anyM_first_fix hoi (Region.noSelect_spec hsel) hst fuel listed a w (Region.free_spec hoi hfree) hmem ?_ IH
    rcases hyw with ⟨hw,hv⟩|⟨hw,rfl⟩
    ·refine .inl ⟨by rw [F.want a ρ hr];exact hw,fun w2=>?_⟩
     rw [F.exec hr]
     have hf:(compileOp P oi).isFix=true:=by unfold fixAt at hfix;rw [hoi] at hfix;exact hfix
     exact still_sound oi v hcs (by generalize compileOp P oi=ko at hf;cases ko<;>first|rfl|(simp [KOp.isFix] at hf)) (by rw [KOp.rd_fix hf];rw [KOp.rd_fix hf] at hv;exact hv)
    ·exact .inr ⟨by rw [F.want a ρ hr];exact hw,rfl⟩
   ·have hall:∀j,j<ops.size→j≠i→listed.getD j true=false→stillAt P ops j=false→makerAt P ops j=true∨(ms.getD j 0).testBit i=true:=by
     rcases hkind with hk|⟨_,hk⟩
     ·exact absurd hk hfix
     ·intro j hj hji hun hsj
      rcases hk j hj with (((h1|h1)|h1)|h1)|h1
      ·exact absurd h1 hji
      ·rw [hun] at h1;cases h1
      ·rw [hsj] at h1;cases h1
      ·exact .inl h1
      ·exact .inr h1
    refine anyM_first_still hm hoi (Region.noSelect_spec hsel) hst fuel listed a w hc (Region.free_spec hoi hfree) hall hmem (fun w2 hg=>?_) IH
    rcases hyw with ⟨hw,hv⟩|⟨hw,rfl⟩
    ·exact .inl ⟨by rw [F.want a ρ hr];exact hw,by rw [F.exec hr];exact still_runs oi v hcs (rd_grows hg hv)⟩
    ·exact .inr ⟨by rw [F.want a ρ hr];exact hw,rfl⟩
  ·split at ho
   ·rename_i he
    simp only [Option.some.injEq] at ho;subst ho
    exact ⟨fun _=>⟨ρ,hr,h⟩,by rw [he];simp⟩
   ·rename_i q rs he
    refine ⟨fun h0=>(by rw [he] at h0;cases h0),fun i hi=>?_⟩
    rw [he] at hi
    have hmem:i∈Region.ready .any ops listed:=by rw [he];exact hi
    obtain ⟨ri,hri,hreg⟩:=alts_sound _ _ ho h i hi
    simp only [Option.bind_eq_some_iff,Option.map_eq_some_iff] at hri
    obtain ⟨oi,hoi,ki,hki,r',hr',rfl⟩:=hri
    have F:=fits_of hki
    have IH:∀v w',regK P r' K (put ρ oi.dst v) w'→anyM P ops (Post n K) fuel (listed.setIfInBounds i true) (a.put oi.dst v) w':=fun v w' hk=>
     tree_sound hm hsel fuel (listed.setIfInBounds i true) r' (a.put oi.dst v) (put ρ oi.dst v) w' hr' (closed_set hc hmem) (by have:=F.put hr v;rwa [F.dst] at this) hk
    simp only [regK,F.dst] at h hreg
    unfold mixOp
    split
    ·rename_i hst
     have hcs:(compileOp P oi).isStill=true:=by unfold stillAt at hst;rw [hoi] at hst;exact hst
     by_cases hw:wantK ρ ki.guard=true
     ·rw [if_pos hw,F.op] at hreg
      obtain ⟨v,hv,hk⟩:=wp_still hcs hreg
      exact YieldsAt.stOp (v:=v) hoi (.inl ⟨by rw [F.want a ρ hr];exact hw,by rw [F.exec hr];exact still_runs oi v hcs hv⟩) (IH v w hk)
     ·rw [if_neg hw] at hreg
      exact YieldsAt.stOp (v:=undef) hoi (.inr ⟨by rw [F.want a ρ hr];simpa using hw,rfl⟩) (IH undef w hreg)
    ·unfold wpOp
     simp only [hoi]
     rw [F.want a ρ hr]
     split
     ·rename_i hw
      rw [if_pos hw] at hreg
      exact .inl (F.wp hr IH hreg)
     ·rename_i hw
      rw [if_neg hw] at hreg
      exact IH undef w hreg
def hoistIn (P:Program) [Quiet P] (ops:Array Oper) (ms:List Nat) (S listed:Array Bool):Option Nat:=
 (Region.ready .any ops listed).find? fun i=>S.getD i false&&(Region.free .any ops listed i&&(fixAt P ops i||(stillAt P ops i&&(List.range ops.size).all fun j=>j==i||listed.getD j true||stillAt P ops j||makerAt P ops j||(ms.getD j 0).testBit i)))
def treeTo (P:Program) [Quiet P] (n:Nat) (ops:Array Oper) (ms:List Nat) (S:Array Bool):Nat→Array Bool→Option KR
 |0,listed=>if listed=S then some .nil else none
 |m+1,listed=>match hoistIn P ops ms S listed with
  |some i=>(ops[i]?).bind fun o=>(compileI P n ops o).bind fun ki=>(treeTo P n ops ms S m (listed.setIfInBounds i true)).map (.cons ki ·)
  |none=>match Region.ready .any ops listed with
   | []=>none
   |r::rs=>alts (fun i=>(ops[i]?).bind fun o=>(compileI P n ops o).bind fun ki=>(treeTo P n ops ms S m (listed.setIfInBounds i true)).map (.cons ki ·)) (r::rs)
theorem treeTo_sound [Quiet P] {n:Nat} {ms:List Nat} {S:Array Bool} {c:Nat} {Q:Act→World→Prop} {K:Env→World→Prop} (hm:checkMasks ops ms=true) (hsel:Region.noSelect ops=true) (hS:∀a ρ w,Rep n a ρ→K ρ w→anyM P ops Q c S a w):∀(fuel:Nat) (listed:Array Bool) (r:KR) (a:Act) (ρ:Env) (w:World),
  treeTo P n ops ms S fuel listed=some r→Closed ops listed→Rep n a ρ→regK P r K ρ w→anyM P ops Q (fuel+c) listed a w
 |0,listed,r,a,ρ,w,ho,hc,hr,h=>by
  simp only [treeTo] at ho
  split at ho
  ·rename_i he
   simp only [Option.some.injEq] at ho;subst ho;subst he
   rw [Nat.zero_add];exact hS a ρ w hr h
  ·cases ho
 |fuel+1,listed,r,a,ρ,w,ho,hc,hr,h=>by
  rw [Nat.add_right_comm fuel 1 c]
  simp only [treeTo] at ho
  split at ho
  ·rename_i i hi
   simp only [Option.bind_eq_some_iff,Option.map_eq_some_iff] at ho
   obtain ⟨oi,hoi,ki,hki,r',hr',rfl⟩:=ho
   have F:=fits_of hki
   have hmem:=List.mem_of_find?_eq_some hi
   have hprop:=List.find?_some hi
   simp only [Bool.and_eq_true,Bool.or_eq_true,List.all_eq_true,List.mem_range,beq_iff_eq] at hprop
   obtain ⟨_,hfree,hkind⟩:=hprop
   have hst:stillAt P ops i=true:=by
    rcases hkind with hk|⟨hk,_⟩
    ·unfold fixAt at hk;unfold stillAt;rw [hoi] at hk ⊢;exact isStill_of_fix hk
    ·exact hk
   have hcs:(compileOp P oi).isStill=true:=by unfold stillAt at hst;rw [hoi] at hst;exact hst
   simp only [regK,F.dst,F.op] at h
   obtain ⟨v,hyw,hrest⟩:∃v,((wantK ρ ki.guard=true∧(compileOp P oi).rd ρ w=some v)∨(wantK ρ ki.guard=false∧v=undef))∧regK P r' K (put ρ oi.dst v) w:=by
    by_cases hw:wantK ρ ki.guard=true
    ·rw [if_pos hw] at h
     obtain ⟨v,hv,hk⟩:=wp_still hcs h
     exact ⟨v,.inl ⟨hw,hv⟩,hk⟩
    ·rw [if_neg hw] at h
     exact ⟨undef,.inr ⟨by simpa using hw,rfl⟩,h⟩
   have hrep:Rep n (a.put oi.dst v) (put ρ oi.dst v):=by have:=F.put hr v;rwa [F.dst] at this
   have IH:=treeTo_sound hm hsel hS fuel (listed.setIfInBounds i true) r' (a.put oi.dst v) (put ρ oi.dst v) w hr' (closed_set hc hmem) hrep hrest
   by_cases hfix:fixAt P ops i=true
   ·refine anyM_first_fix hoi (Region.noSelect_spec hsel) hst (fuel+c) listed a w (Region.free_spec hoi hfree) hmem ?_ IH
    rcases hyw with ⟨hw,hv⟩|⟨hw,rfl⟩
    ·refine .inl ⟨by rw [F.want a ρ hr];exact hw,fun w2=>?_⟩
     rw [F.exec hr]
     have hf:(compileOp P oi).isFix=true:=by unfold fixAt at hfix;rw [hoi] at hfix;exact hfix
     exact still_sound oi v hcs (by generalize compileOp P oi=ko at hf;cases ko<;>first|rfl|(simp [KOp.isFix] at hf)) (by rw [KOp.rd_fix hf];rw [KOp.rd_fix hf] at hv;exact hv)
    ·exact .inr ⟨by rw [F.want a ρ hr];exact hw,rfl⟩
   ·have hall:∀j,j<ops.size→j≠i→listed.getD j true=false→stillAt P ops j=false→makerAt P ops j=true∨(ms.getD j 0).testBit i=true:=by
     rcases hkind with hk|⟨_,hk⟩
     ·exact absurd hk hfix
     ·intro j hj hji hun hsj
      rcases hk j hj with (((h1|h1)|h1)|h1)|h1
      ·exact absurd h1 hji
      ·rw [hun] at h1;cases h1
      ·rw [hsj] at h1;cases h1
      ·exact .inl h1
      ·exact .inr h1
    refine anyM_first_still hm hoi (Region.noSelect_spec hsel) hst (fuel+c) listed a w hc (Region.free_spec hoi hfree) hall hmem (fun w2 hg=>?_) IH
    rcases hyw with ⟨hw,hv⟩|⟨hw,rfl⟩
    ·exact .inl ⟨by rw [F.want a ρ hr];exact hw,by rw [F.exec hr];exact still_runs oi v hcs (rd_grows hg hv)⟩
    ·exact .inr ⟨by rw [F.want a ρ hr];exact hw,rfl⟩
  ·split at ho
   ·cases ho
   ·rename_i q rs he
    refine ⟨fun h0=>(by rw [he] at h0;cases h0),fun i hi=>?_⟩
    rw [he] at hi
    have hmem:i∈Region.ready .any ops listed:=by rw [he];exact hi
    obtain ⟨ri,hri,hreg⟩:=alts_sound _ _ ho h i hi
    simp only [Option.bind_eq_some_iff,Option.map_eq_some_iff] at hri
    obtain ⟨oi,hoi,ki,hki,r',hr',rfl⟩:=hri
    have F:=fits_of hki
    have IH:∀v w',regK P r' K (put ρ oi.dst v) w'→anyM P ops Q (fuel+c) (listed.setIfInBounds i true) (a.put oi.dst v) w':=fun v w' hk=>
     treeTo_sound hm hsel hS fuel (listed.setIfInBounds i true) r' (a.put oi.dst v) (put ρ oi.dst v) w' hr' (closed_set hc hmem) (by have:=F.put hr v;rwa [F.dst] at this) hk
    simp only [regK,F.dst] at h hreg
    unfold mixOp
    split
    ·rename_i hst
     have hcs:(compileOp P oi).isStill=true:=by unfold stillAt at hst;rw [hoi] at hst;exact hst
     by_cases hw:wantK ρ ki.guard=true
     ·rw [if_pos hw,F.op] at hreg
      obtain ⟨v,hv,hk⟩:=wp_still hcs hreg
      exact YieldsAt.stOp (v:=v) hoi (.inl ⟨by rw [F.want a ρ hr];exact hw,by rw [F.exec hr];exact still_runs oi v hcs hv⟩) (IH v w hk)
     ·rw [if_neg hw] at hreg
      exact YieldsAt.stOp (v:=undef) hoi (.inr ⟨by rw [F.want a ρ hr];simpa using hw,rfl⟩) (IH undef w hreg)
    ·unfold wpOp
     simp only [hoi]
     rw [F.want a ρ hr]
     split
     ·rename_i hw
      rw [if_pos hw] at hreg
      exact .inl (F.wp hr IH hreg)
     ·rename_i hw
      rw [if_neg hw] at hreg
      exact IH undef w hreg
theorem treeTo_closed [Quiet P] {n:Nat} {ms:List Nat} {S:Array Bool}:∀(fuel:Nat) (listed:Array Bool) (r:KR),treeTo P n ops ms S fuel listed=some r→Closed ops listed→Closed ops S
 |0,listed,r,ho,hc=>by
  simp only [treeTo] at ho
  split at ho
  ·rename_i he;subst he;exact hc
  ·cases ho
 |fuel+1,listed,r,ho,hc=>by
  simp only [treeTo] at ho
  split at ho
  ·rename_i i hi
   simp only [Option.bind_eq_some_iff,Option.map_eq_some_iff] at ho
   obtain ⟨oi,hoi,ki,hki,r',hr',rfl⟩:=ho
   exact treeTo_closed fuel _ r' hr' (closed_set hc (List.mem_of_find?_eq_some hi))
  ·split at ho
   ·cases ho
   ·rename_i q rs he
    have h1:∃ri:KR,((ops[q]?).bind fun o=>(compileI P n ops o).bind fun ki=>(treeTo P n ops ms S fuel (listed.setIfInBounds q true)).map (KR.cons ki ·))=some ri:=by
     cases rs with
     |nil=>exact ⟨r,ho⟩
     |cons j l=>
      simp only [alts,Option.bind_eq_some_iff,Option.map_eq_some_iff] at ho
      obtain ⟨a,ha,_⟩:=ho
      exact ⟨a,by simp only [Option.bind_eq_some_iff,Option.map_eq_some_iff];exact ha⟩
    obtain ⟨ri,h1⟩:=h1
    simp only [Option.bind_eq_some_iff,Option.map_eq_some_iff] at h1
    obtain ⟨oi,hoi,ki,hki,r',hr',_⟩:=h1
    exact treeTo_closed fuel _ r' hr' (closed_set hc (by rw [he];simp))
def treeP (P:Program) [Quiet P] (n:Nat) (ops:Array Oper) (ms:List Nat):List (Nat × Array Bool)→Nat→Array Bool→Option KR
 | [],fuel,listed=>tree P n ops ms fuel listed
 |(d,S)::r,fuel,listed=>if d≤fuel then (treeTo P n ops ms S d listed).bind fun a=>(treeP P n ops ms r (fuel - d) S).map (.join a ·) else none
theorem treeP_sound [Quiet P] {n:Nat} {ms:List Nat} {K:Env→World→Prop} (hm:checkMasks ops ms=true) (hsel:Region.noSelect ops=true):∀(plan:List (Nat × Array Bool)) (fuel:Nat) (listed:Array Bool) (r:KR) (a:Act) (ρ:Env) (w:World),
  treeP P n ops ms plan fuel listed=some r→Closed ops listed→Rep n a ρ→regK P r K ρ w→anyM P ops (Post n K) fuel listed a w
 | [],fuel,listed,r,a,ρ,w,ho,hc,hr,h=>tree_sound hm hsel fuel listed r a ρ w ho hc hr h
 |(d,S)::plan,fuel,listed,r,a,ρ,w,ho,hc,hr,h=>by
  simp only [treeP] at ho
  split at ho
  ·rename_i hd
   simp only [Option.bind_eq_some_iff,Option.map_eq_some_iff] at ho
   obtain ⟨ra,ha,rb,hb,rfl⟩:=ho
   have hcS:=treeTo_closed d listed ra ha hc
   have:=treeTo_sound (c:=fuel - d) (Q:=Post n K) (K:=regK P rb K) hm hsel (fun a ρ w hr h=>treeP_sound hm hsel plan (fuel - d) S rb a ρ w hb hcS hr h) d listed ra a ρ w ha hc hr h
   rwa [show d+(fuel - d)=fuel by omega] at this
  ·cases ho
def cutSet (ops:Array Oper) (ms:List Nat) (non:List Nat) (k:Nat):Array Bool:=
 ((List.range ops.size).map fun i=>if non.contains i then decide (i<k) else non.all fun j=>decide (j<k)||!(ms.getD i 0).testBit j).toArray
def cutOk (ms:List Nat) (non:List Nat) (k:Nat):Bool:=
 non.all fun j=>decide (j<k)||non.all fun i=>decide (k≤i)||(ms.getD j 0).testBit i
def cutAt (ms:List Nat) (non:List Nat):List Nat:=
 let ks:=non.filter fun k=>decide (0<k)&&cutOk ms non k&&decide (non.head? ≠some k)
 let seg (a b:Nat):Nat:=(non.filter fun i=>decide (a≤i)&&decide (i<b)).length
 let bs:=0::ks
 (ks.zipIdx.filter fun (k,i)=>decide (1<seg (bs.getD i 0) k)||decide (1<seg k (ks.getD (i+1) 1000000))).map (·.1)
def planOf (ops:Array Oper) (ms:List Nat) (non:List Nat):List (Nat × Array Bool):=
 let Ss:=(cutAt ms non).map (cutSet ops ms non)
 let cnt (S:Array Bool):Nat:=(S.toList.filter id).length
 (Ss.zipIdx).map fun (S,i)=>(cnt S - (match i with|0=>0|j+1=>cnt (Ss.getD j #[])),S)
def nonFix (P:Program) [Quiet P] (ops:Array Oper):List Nat:=(List.range ops.size).filter fun i=>!fixAt P ops i
def mkMasks (ops:Array Oper):List Nat:=
 ops.toList.foldl (fun ms o=>ms++ [o.after.toList.foldl (fun m e=>if Region.binds .any e then m|||2^e.on|||ms.getD e.on 0 else m) 0]) []
def compileR (P:Program) [Quiet P] (n:Nat) (ops:Array Oper):Option KR:=
 if checkMasks ops (mkMasks ops)&&Region.noSelect ops then
  match treeP P n ops (mkMasks ops) (planOf ops (mkMasks ops) (nonFix P ops)) ops.size (Array.replicate ops.size false) with
  |some r=>some r
  |none=>tree P n ops (mkMasks ops) ops.size (Array.replicate ops.size false)
 else none
theorem closed_start:Closed ops (Array.replicate ops.size false):=by
 intro j oj _ hl
 have:(Array.replicate ops.size false).getD j false=false:=by
  simp only [Array.getD_eq_getD_getElem?,Array.getElem?_replicate];split<;>rfl
 rw [this] at hl;cases hl
theorem region_draw [Quiet P] {n:Nat} {id:Nat} {r:KR} {K:Env→World→Prop} {a:Act} {ρ:Env} {w:World} {Q:Exit→Act→World→Prop} (hmx:P.follows .mixedOrders=true) (hc:compileR P n ops=some r) (hr:Rep n a ρ)
  (h:regK P r K ρ w.drew) (hQ:∀a w,Post n K a w→Q .normal a w):(Code.region id ops true).wp P Q a w:=by
 unfold compileR at hc
 rw [Option.ite_none_right_eq_some] at hc
 obtain ⟨h1,h2⟩:=hc
 simp only [Bool.and_eq_true] at h1
 split at h2
 ·rename_i r' hp
  simp only [Option.some.injEq] at h2;subst h2
  exact wp_region_any hmx (any_of_anyM hQ _ _ _ _ (treeP_sound h1.1 h1.2 _ _ _ _ a ρ _ hp closed_start hr h))
 ·exact wp_region_any hmx (any_of_anyM hQ _ _ _ _ (tree_sound h1.1 h1.2 _ _ r a ρ _ h2 closed_start hr h))
theorem region_plain [Quiet P] {n:Nat} {id:Nat} {r:KR} {K:Env→World→Prop} {a:Act} {ρ:Env} {w:World} {Q:Exit→Act→World→Prop} (hc:compileL P n ops ops.toList=some r) (hr:Rep n a ρ)
  (h:regK P r K ρ w) (hQ:∀a w,Post n K a w→Q .normal a w):(Code.region id ops false).wp P Q a w:=by
 refine Code.wp_mono (Q:=Nrm n K) ?_ (wp_region_list (regL ops.toList r a ρ w hc h hr))
 intro e a w hn
 cases e<;>first|exact hQ _ _ hn|exact hn.elim
def setS (S:Nat→Bool) (i:Nat):Nat→Bool:=fun j=>if j=i then true else S j
def anyStep (P:Program) (I:(Nat→Bool)→Env→World→Prop) (S:Nat→Bool) (i:Nat) (k:KI) (ρ:Env) (w:World):Prop:=
 if wantK ρ k.guard=true then k.op.wp P ρ w (fun v w'=>I (setS S i) (put ρ k.dst v) w') else I (setS S i) (put ρ k.dst undef) w
def anyK (P:Program) (l:List (KI × List Nat)) (Q:Env→World→Prop) (ρ:Env) (w:World):Prop:=
 ∃I:(Nat→Bool)→Env→World→Prop,I (fun _=>false) ρ w∧
  (∀(i:Nat) (h:i<l.length) (S:Nat→Bool) (ρ:Env) (w:World),S i=false→(∀d∈(l[i]).2,S d=true)→I S ρ w→anyStep P I S i (l[i]).1 ρ w)∧
  ∀(S:Nat→Bool) (ρ:Env) (w:World),(∀i,i<l.length→S i=true)→I S ρ w→Q ρ w
def depsOf (o:Oper):List Nat:=(o.after.toList.filter fun e=>Region.binds .any e).map (·.on)
def itemsOf (P:Program) [Quiet P] (n:Nat) (ops:Array Oper):List Oper→Option (List (KI × List Nat))
 | []=>some []
 |o::r=>(compileI P n ops o).bind fun k=>(itemsOf P n ops r).map ((k,depsOf o)::·)
def earlyB:Nat→List Oper→Bool
 |_, []=>true
 |i,o::l=>(depsOf o).all (fun d=>decide (d<i))&&earlyB (i+1) l
def compileA (P:Program) [Quiet P] (n:Nat) (ops:Array Oper):Option (List (KI × List Nat)):=
 if Region.noSelect ops&&earlyB 0 ops.toList then itemsOf P n ops ops.toList else none
def wideR (P:Program) [Quiet P] (ops:Array Oper):Bool:=
 let ms:=mkMasks ops
 let non:=nonFix P ops
 decide (14<((non.map fun j=>(non.filter fun i=>decide (i<j)&&!(stillAt P ops i&&stillAt P ops j)&&!(ms.getD j 0).testBit i).length).foldl (·+·) 0))
theorem items_at [Quiet P] {n:Nat}:∀(L:List Oper) (l:List (KI × List Nat)),itemsOf P n ops L=some l→l.length=L.length∧∀(i:Nat) (h:i<l.length) (h':i<L.length),compileI P n ops L[i]=some (l[i]).1∧(l[i]).2=depsOf L[i]
 | [],l,h=>by
  simp only [itemsOf,Option.some.injEq] at h;subst h
  exact ⟨rfl,fun i h=>absurd h (by simp)⟩
 |o::L,l,h=>by
  simp only [itemsOf,Option.bind_eq_some_iff,Option.map_eq_some_iff] at h
  obtain ⟨k,hk,l',hl',rfl⟩:=h
  obtain ⟨h1,h2⟩:=items_at L l' hl'
  refine ⟨by simp [h1],fun i hi hi'=>?_⟩
  cases i with
  |zero=>exact ⟨hk,rfl⟩
  |succ i=>exact h2 i (by simpa using hi) (by simpa using hi')
theorem early_at:∀(L:List Oper) (k:Nat),earlyB k L=true→∀(i:Nat) (h:i<L.length),∀d∈depsOf L[i],d<k+i
 | [],_,_,i,h=>absurd h (by simp)
 |o::L,k,he,i,h=>by
  simp only [earlyB,Bool.and_eq_true,List.all_eq_true,decide_eq_true_eq] at he
  cases i with
  |zero=>exact fun d hd=>he.1 d hd
  |succ i=>
   intro d hd
   have:=early_at L (k+1) he.2 i (by simpa using h) d hd
   omega
def unl (m:Nat) (listed:Array Bool):Nat:=((List.range m).filter fun i=>!listed.getD i true).length
theorem filter_less {p q:Nat→Bool} {i:Nat}:∀{L:List Nat},L.Nodup→i∈L→p i=true→q i=false→(∀j,j≠i→q j=p j)→(L.filter q).length+1=(L.filter p).length
 | [],_,hi,_,_,_=>by cases hi
 |j::L,hn,hi,hp,hq,he=>by
  rw [List.nodup_cons] at hn
  by_cases e:j=i
  ·subst e
   have h2:L.filter q=L.filter p:=List.filter_congr fun k hk=>he k (fun e=>hn.1 (e▸hk))
   rw [List.filter_cons_of_pos hp,List.filter_cons_of_neg (by simp [hq]),h2,List.length_cons]
  ·have hi':i∈L:=(List.mem_cons.1 hi).resolve_left (fun h=>e h.symm)
   have ih:=filter_less hn.2 hi' hp hq he
   have hj:=he j e
   rw [List.filter_cons,List.filter_cons,hj]
   cases p j<;>simp<;>omega
theorem ready_all {listed:Array Bool} (hs:listed.size=ops.size) (he:earlyB 0 ops.toList=true) (h0:Region.ready .any ops listed= []):∀i,i<ops.size→listed.getD i false=true:=by
 intro i
 induction i using Nat.strongRecOn with
 |_ i ih=>
  intro hi
  cases hl:listed.getD i false with
  |true=>rfl
  |false=>
   exfalso
   have hmem:i∈Region.ready .any ops listed:=by
    rw [mem_ready]
    refine ⟨?_,ops[i],Array.getElem?_eq_getElem hi,fun e hm hb=>?_⟩
    ·simp only [Array.getD_eq_getD_getElem?,Array.getElem?_eq_getElem (show i<listed.size by omega),Option.getD_some] at hl ⊢
     exact hl
    ·have hd:e.on∈depsOf ops[i]:=List.mem_map.2 ⟨e,List.mem_filter.2 ⟨by simpa using hm,hb⟩,rfl⟩
     have:=early_at ops.toList 0 he i (by simpa using hi) e.on (by simpa using hd)
     exact ih e.on (by omega) (by omega)
   rw [h0] at hmem;cases hmem
theorem any_sound [Quiet P] {n:Nat} {l:List (KI × List Nat)} {K:Env→World→Prop} {I:(Nat→Bool)→Env→World→Prop} (hsel:Region.noSelect ops=true) (he:earlyB 0 ops.toList=true) (hl:itemsOf P n ops ops.toList=some l)
  (hstep:∀(i:Nat) (h:i<l.length) (S:Nat→Bool) (ρ:Env) (w:World),S i=false→(∀d∈(l[i]).2,S d=true)→I S ρ w→anyStep P I S i (l[i]).1 ρ w)
  (hend:∀(S:Nat→Bool) (ρ:Env) (w:World),(∀i,i<l.length→S i=true)→I S ρ w→K ρ w):
  ∀(fuel:Nat) (listed:Array Bool) (a:Act) (ρ:Env) (w:World),listed.size=ops.size→unl ops.size listed=fuel→Rep n a ρ→I (fun j=>listed.getD j false) ρ w→anyM P ops (Post n K) fuel listed a w:=by
 obtain ⟨hlen,hat⟩:=items_at ops.toList l hl
 have hlen:l.length=ops.size:=by rw [hlen];simp
 intro fuel
 induction fuel with
 |zero=>
  intro listed a ρ w hs hu hr hI
  have hall:∀i,i<ops.size→listed.getD i true=true:=fun i hi=>by
   unfold unl at hu
   have h1:=List.length_eq_zero_iff.1 hu
   rw [List.filter_eq_nil_iff] at h1
   have:=h1 i (List.mem_range.2 hi)
   simpa using this
  have h0:Region.ready .any ops listed= []:=by
   rw [List.eq_nil_iff_forall_not_mem]
   intro j hj
   obtain ⟨h1,o,ho, -⟩:=mem_ready.1 hj
   rw [hall j (Array.getElem?_eq_some_iff.1 ho).1] at h1;cases h1
  exact ⟨h0,ρ,hr,hend _ ρ w (fun i hi=>ready_all hs he h0 i (by omega)) hI⟩
 |succ fuel ih=>
  intro listed a ρ w hs hu hr hI
  refine ⟨fun h0=>⟨ρ,hr,hend _ ρ w (fun i hi=>ready_all hs he h0 i (by omega)) hI⟩,fun i hi=>?_⟩
  obtain ⟨hun,oi,hoi,hdep⟩:=mem_ready.1 hi
  have hil:i<ops.size:=(Array.getElem?_eq_some_iff.1 hoi).1
  have hio:ops.toList[i]'(by simpa using hil)=oi:=by
   have:=(Array.getElem?_eq_some_iff.1 hoi).2
   simpa using this
  obtain ⟨hc,hd⟩:=hat i (by omega) (by simpa using hil)
  rw [hio] at hc hd
  have F:=fits_of hc
  have hun':listed.getD i false=false:=by
   simp only [Array.getD_eq_getD_getElem?,Array.getElem?_eq_getElem (show i<listed.size by omega),Option.getD_some] at hun ⊢
   exact hun
  have hst:=hstep i (by omega) (fun j=>listed.getD j false) ρ w hun' (fun d hm=>by
   rw [hd] at hm
   obtain ⟨e,h1,rfl⟩:=List.mem_map.1 hm
   obtain ⟨h1,h2⟩:=List.mem_filter.1 h1
   exact hdep e (by simpa using h1) h2) hI
  have hset:(fun j=>(listed.setIfInBounds i true).getD j false)=setS (fun j=>listed.getD j false) i:=by
   funext j
   unfold setS
   by_cases e:j=i
   ·subst e
    rw [if_pos rfl]
    simp [Array.getD_eq_getD_getElem?,show j<listed.size by omega]
   ·rw [if_neg e,getD_set_ne false (Ne.symm e)]
  have IH:∀v w',I (setS (fun j=>listed.getD j false) i) (put ρ oi.dst v) w'→anyM P ops (Post n K) fuel (listed.setIfInBounds i true) (a.put oi.dst v) w':=fun v w' hI'=>by
   refine ih _ _ _ w' (by simp [hs]) ?_ (by have:=F.put hr v;rwa [F.dst] at this) (by rw [hset];exact hI')
   have:=filter_less (p:=fun i=>!listed.getD i true) (q:=fun j=>!(listed.setIfInBounds i true).getD j true) (i:=i) (L:=List.range ops.size) List.nodup_range (List.mem_range.2 hil) (by simp [hun]) (by simp [Array.getD_eq_getD_getElem?,show i<listed.size by omega]) (fun j hj=>by rw [getD_set_ne true (Ne.symm hj)])
   unfold unl at hu ⊢
   omega
  unfold anyStep at hst
  simp only [F.dst] at hst
  unfold mixOp
  split
  ·rename_i hst2
   have hcs:(compileOp P oi).isStill=true:=by unfold stillAt at hst2;rw [hoi] at hst2;exact hst2
   by_cases hw:wantK ρ (l[i]'(by omega)).1.guard=true
   ·rw [if_pos hw,F.op] at hst
    obtain ⟨v,hv,hk⟩:=wp_still hcs hst
    exact YieldsAt.stOp (v:=v) hoi (.inl ⟨by rw [F.want a ρ hr];exact hw,by rw [F.exec hr];exact still_runs oi v hcs hv⟩) (IH v w hk)
   ·rw [if_neg hw] at hst
    exact YieldsAt.stOp (v:=undef) hoi (.inr ⟨by rw [F.want a ρ hr];simpa using hw,rfl⟩) (IH undef w hst)
  ·unfold wpOp
   simp only [hoi]
   rw [F.want a ρ hr]
   split
   ·rename_i hw
    rw [if_pos hw] at hst
    exact .inl (F.wp hr IH hst)
   ·rename_i hw
    rw [if_neg hw] at hst
    exact IH undef w hst
theorem region_anyA [Quiet P] {n:Nat} {id:Nat} {l:List (KI × List Nat)} {K:Env→World→Prop} {a:Act} {ρ:Env} {w:World} {Q:Exit→Act→World→Prop} (hmx:P.follows .mixedOrders=true) (hc:compileA P n ops=some l) (hr:Rep n a ρ)
  (h:anyK P l K ρ w.drew) (hQ:∀a w,Post n K a w→Q .normal a w):(Code.region id ops true).wp P Q a w:=by
 unfold compileA at hc
 rw [Option.ite_none_right_eq_some] at hc
 obtain ⟨h1,h2⟩:=hc
 simp only [Bool.and_eq_true] at h1
 obtain ⟨I,hI,hstep,hend⟩:=h
 have e0:∀(d:Bool) (j:Nat),j<ops.size→(Array.replicate ops.size false).getD j d=false:=fun d j hj=>by
  simp [Array.getD_eq_getD_getElem?,Array.getElem?_replicate,hj]
 have e1:(fun j=>(Array.replicate ops.size false).getD j false)=fun _=>false:=by
  funext j
  simp only [Array.getD_eq_getD_getElem?,Array.getElem?_replicate];split<;>rfl
 refine wp_region_any hmx (any_of_anyM hQ _ _ _ _ (any_sound h1.1 h1.2 h2 hstep hend ops.size (Array.replicate ops.size false) a ρ _ (by simp) ?_ hr (by rw [e1];exact hI)))
 unfold unl
 rw [List.filter_eq_self.2 (fun i hi=>by rw [e0 true i (List.mem_range.1 hi)];rfl)]
 simp
inductive KC where
 |skip
 |reg (draw:Bool) (r:KR)
 |anyR (l:List (KI × List Nat))
 |seq (a b:KC)
 |cond (x:Operand) (a b:KC)
 |block (id:Nat) (c:KC)
 |loop (c:KC)
 |exit (id:Nat)
 |ret
 |raw (n:Nat) (c:Code)
def codeK (P:Program):KC→(Exit→Env→World→Prop)→Env→World→Prop
 |.skip,K,ρ,w=>K .normal ρ w
 |.reg false r,K,ρ,w=>regK P r (K .normal) ρ w
 |.reg true r,K,ρ,w=>regK P r (K .normal) ρ w.drew
 |.anyR l,K,ρ,w=>anyK P l (K .normal) ρ w.drew
 |.seq a b,K,ρ,w=>codeK P a (fun e ρ' w'=>match e with
  |.normal=>codeK P b K ρ' w'
  |e=>K e ρ' w') ρ w
 |.cond x a b,K,ρ,w=>∃t,ev ρ x=.bool t∧(t=true→codeK P a K ρ w)∧(t=false→codeK P b K ρ w)
 |.block id c,K,ρ,w=>codeK P c (fun e ρ' w'=>match e with
  |.exit id'=>if id'=id then K .normal ρ' w' else K (.exit id') ρ' w'
  |e=>K e ρ' w') ρ w
 |.loop c,K,ρ,w=>∃(I:Env→World→Prop) (μ:Env→World→Nat),I ρ w∧∀ρ w,I ρ w→codeK P c (fun e ρ' w'=>match e with
  |.normal=>I ρ' w'∧μ ρ' w'<μ ρ w
  |e=>K e ρ' w') ρ w
 |.exit id,K,ρ,w=>K (.exit id) ρ w
 |.ret,K,ρ,w=>K .ret ρ w
 |.raw n c,K,ρ,w=>∀a,Rep n a ρ→c.wp P (fun e a' w'=>∃ρ',Rep n a' ρ'∧K e ρ' w') a w
def compileC (P:Program) [Quiet P] (n:Nat):Code→KC
 |.skip=>.skip
 |.region id ops d=>if d&&wideR P ops then (match compileA P n ops with
  |some l=>.anyR l
  |none=>.raw n (.region id ops d)) else match (if d then compileR P n ops else compileL P n ops ops.toList) with
  |some r=>.reg d r
  |none=>.raw n (.region id ops d)
 |.seq a b=>.seq (compileC P n a) (compileC P n b)
 |.cond x a b=>if operOK n x then .cond x (compileC P n a) (compileC P n b) else .raw n (.cond x a b)
 |.block id c=>.block id (compileC P n c)
 |.loop c=>.loop (compileC P n c)
 |.exit id=>.exit id
 |.ret=>.ret
 |.scope c=>.raw n (.scope c)
 |c=>.raw n c
theorem loop_at {σ:Type} {c:Code} {Q:Exit→Act→World→Prop} {a:Act} {w:World} (I:σ→Act→World→Prop) (μ:σ→World→Nat) (s:σ) (h₀:I s a w)
  (round:∀s a w,I s a w→c.wp P (Exit.then (fun a' w'=>∃s',I s' a' w'∧μ s' w'<μ s w) Q) a w):(Code.loop c).wp P Q a w:=by
 intro b k cs
 have key:∀n s a w,μ s w=n→I s a w→
   ∃e a' w',Q e a' w'∧Arrives P (lone (b.at a (.code c::.inLoop c::k)) cs w) b k cs e a' w':=by
  intro n
  induction n using Nat.strongRecOn with
  |_ n ih=>
   intro s a w hn hI
   obtain ⟨e,a₁,w₁,hq,harr⟩:=round s a w hI b (.inLoop c::k) cs
   cases e with
   |normal=>
    obtain ⟨s',hI₁,hlt⟩:=hq
    obtain ⟨e₂,a₂,w₂,hq₂,harr₂⟩:=ih (μ s' w₁) (hn▸hlt) s' a₁ w₁ rfl hI₁
    exact ⟨e₂,a₂,w₂,hq₂,.of_steps (Steps.trans harr (.one step_inLoop)) harr₂⟩
   |exit id=>exact ⟨_,a₁,w₁,hq,.pass (x:=.inLoop c) rfl (fun _ _=>.inl (by simp)) harr⟩
   |goto l=>exact ⟨_,a₁,w₁,hq,.pass (x:=.inLoop c) rfl (fun _ _=>.inl (by simp)) harr⟩
   |ret=>exact ⟨_,a₁,w₁,hq,.pass (x:=.inLoop c) rfl (fun _ _=>.inl (by simp)) harr⟩
   |panic ch=>exact ⟨_,a₁,w₁,hq,.pass (x:=.inLoop c) rfl (fun _ _=>.inl (by simp)) harr⟩
   |outgrown=>exact ⟨_,a₁,w₁,hq,.pass (x:=.inLoop c) rfl (fun _ _=>.inl (by simp)) harr⟩
 obtain ⟨e,a',w',hq,harr⟩:=key _ s a w rfl h₀
 exact ⟨e,a',w',hq,.of_steps (.one step_loop) harr⟩
theorem code_sound [Quiet P] {n:Nat} (hmx:P.follows .mixedOrders=true):∀(c:Code) (K:Exit→Env→World→Prop) (a:Act) (ρ:Env) (w:World),Rep n a ρ→codeK P (compileC P n c) K ρ w→c.wp P (fun e a' w'=>∃ρ',Rep n a' ρ'∧K e ρ' w') a w
 |.skip,K,a,ρ,w,hr,h=>wp_skip ⟨ρ,hr,h⟩
 |.region id ops d,K,a,ρ,w,hr,h=>by
  simp only [compileC] at h
  split at h
  ·rename_i hd
   simp only [Bool.and_eq_true] at hd
   obtain ⟨rfl, -⟩:=hd
   split at h
   ·rename_i l hc
    exact region_anyA hmx hc hr h (fun a w hp=>hp)
   ·exact h a hr
  split at h
  ·rename_i r hc
   cases d with
   |true=>exact region_draw hmx (by simpa using hc) hr h (fun a w hp=>hp)
   |false=>exact region_plain (by simpa using hc) hr h (fun a w hp=>hp)
  ·exact h a hr
 |.seq x y,K,a,ρ,w,hr,h=>by
  simp only [compileC,codeK] at h
  refine wp_seq (Code.wp_mono ?_ (code_sound hmx x _ a ρ w hr h))
  rintro e a' w' ⟨ρ',hr',hk⟩
  cases e<;>first|exact ⟨ρ',hr',hk⟩|exact code_sound hmx y K a' ρ' w' hr' hk
 |.cond x c d,K,a,ρ,w,hr,h=>by
  simp only [compileC] at h
  split at h
  ·rename_i hx
   obtain ⟨t,ht,h1,h2⟩:=h
   refine wp_cond (t:=t) (by rw [hr.eval hx];exact ht) ?_
   cases t with
   |true=>exact code_sound hmx c K a ρ w hr (h1 rfl)
   |false=>exact code_sound hmx d K a ρ w hr (h2 rfl)
  ·exact h a hr
 |.block id c,K,a,ρ,w,hr,h=>by
  simp only [compileC,codeK] at h
  refine wp_block (Code.wp_mono ?_ (code_sound hmx c _ a ρ w hr h))
  rintro e a' w' ⟨ρ',hr',hk⟩
  cases e with
  |exit id'=>
   simp only [Exit.inBlock] at hk ⊢
   split
   ·rename_i he;rw [if_pos he] at hk;exact ⟨ρ',hr',hk⟩
   ·rename_i he;rw [if_neg he] at hk;exact ⟨ρ',hr',hk⟩
  |normal=>exact ⟨ρ',hr',hk⟩
  |ret=>exact ⟨ρ',hr',hk⟩
  |goto l=>exact ⟨ρ',hr',hk⟩
  |panic ch=>exact ⟨ρ',hr',hk⟩
  |outgrown=>exact ⟨ρ',hr',hk⟩
 |.loop c,K,a,ρ,w,hr,h=>by
  simp only [compileC,codeK] at h
  obtain ⟨I,μ,h0,hround⟩:=h
  refine loop_at (fun ρ a w=>Rep n a ρ∧I ρ w) μ ρ ⟨hr,h0⟩ fun ρ a w ⟨hr,hI⟩=>?_
  refine Code.wp_mono ?_ (code_sound hmx c _ a ρ w hr (hround ρ w hI))
  rintro e a' w' ⟨ρ',hr',hk⟩
  cases e<;>first|exact ⟨ρ',hr',hk⟩|exact ⟨ρ',⟨hr',hk.1⟩,hk.2⟩
 |.exit id,K,a,ρ,w,hr,h=>wp_exit ⟨ρ,hr,h⟩
 |.ret,K,a,ρ,w,hr,h=>wp_ret ⟨ρ,hr,h⟩
 |.scope c,K,a,ρ,w,hr,h=>h a hr
 |.goto l,K,a,ρ,w,hr,h=>h a hr
 |.label l,K,a,ρ,w,hr,h=>h a hr
 |.rangeFunc f p x y,K,a,ρ,w,hr,h=>h a hr
 |.refuse s,K,a,ρ,w,hr,h=>h a hr
inductive RV where
 |tmp (t:Tmp)
 |cell (t:Tmp)
 |cellN (n:Nat) (t:Tmp)
def rvOf (P:Program) (n:Nat):ResultVar→Option RV
 |.tmp t=>if t<n then some (.tmp t) else none
 |.cell a t=>if a<n then match aggSize P t with
  |some (some k)=>some (.cellN k a)
  |some none=>some (.cell a)
  |none=>none
  else none
def rvsOf (P:Program) (n:Nat):List ResultVar→Option (List RV)
 | []=>some []
 |x::l=>(rvOf P n x).bind fun r=>(rvsOf P n l).map (r::·)
def resultsOf (P:Program) (fn:Func) (n:Nat):Option (List RV):=rvsOf P n fn.results.toList
def rvRd (ρ:Env) (w:World):RV→Option Value
 |.tmp t=>some (ρ t)
 |.cell t=>match ρ t with
  |.pointer (some a)=>w.cell? a
  |_=>none
 |.cellN n t=>match ρ t with
  |.pointer (some a)=>(rdCells w a 0 n).map fun l=>.agg l.toArray
  |_=>none
def rvsRd (ρ:Env) (w:World):List RV→Option (List Value)
 | []=>some []
 |x::l=>(rvRd ρ w x).bind fun v=>(rvsRd ρ w l).map (v::·)
def retRd (ρ:Env) (w:World):List RV→Option Value
 | [t]=>rvRd ρ w t
 |ts=>(rvsRd ρ w ts).map fun l=>.tuple l.toArray
def Spec (P:Program) (f:FuncId) (args:List Value) (w:World) (R:Value→World→Prop):Prop:=
 Calls P f args.toArray w fun e w'=>∃v,e=.returned v∧R v w'
def startEnv (args:List Value):Env:=fun t=>args.getD t undef
def retK (rs:List RV) (R:Value→World→Prop):Exit→Env→World→Prop
 |.normal,ρ,w|.ret,ρ,w=>∃v,retRd ρ w rs=some v∧R v w
 |_,_,_=>False
theorem rv_run {n:Nat} {x:ResultVar} {r:RV} {v:Value} {a:Act} {ρ:Env} {w:World} (hr:rvOf P n x=some r) (hrep:Rep n a ρ) (hv:rvRd ρ w r=some v):
  (match x with|.tmp t=>pure (a.tmps.getD t undef)|.cell b t=>(do loadVar t (←asAddr (a.tmps.getD b undef))):Sem Value).run P w=.ok v w:=by
 cases x with
 |tmp t=>
  simp only [rvOf,Option.ite_none_right_eq_some,Option.some.injEq] at hr
  obtain ⟨ht,rfl⟩:=hr
  simp only [rvRd,Option.some.injEq] at hv
  subst hv
  simp only [hrep.getD ht,Sem.run_pure]
 |cell b t=>
  simp only [rvOf,Option.ite_none_right_eq_some] at hr
  obtain ⟨hb,hr⟩:=hr
  simp only [hrep.getD hb]
  split at hr
  ·rename_i k hk
   simp only [Option.some.injEq] at hr;subst hr
   simp only [rvRd] at hv
   split at hv
   ·rename_i ad had
    obtain ⟨l,hl,rfl⟩:=Option.map_eq_some_iff.1 hv
    obtain ⟨h1,h2⟩:=aggSize_some hk w
    rw [had]
    simp [asAddr,loadVar,h1,h2,loadCells,run_loadCellsFrom k 0 #[] l hl]
   ·cases hv
  ·rename_i hk
   simp only [Option.some.injEq] at hr;subst hr
   simp only [rvRd] at hv
   split at hv
   ·rename_i ad had
    rw [had]
    simp [asAddr,loadVar,aggSize_none hk w,load,Sem.run,hv]
   ·cases hv
  ·cases hr
theorem run_results {fn:Func} {n:Nat} {rs:List RV} {v:Value} {a:Act} {ρ:Env} {w:World} (hr:resultsOf P fn n=some rs) (hrep:Rep n a ρ) (hv:retRd ρ w rs=some v):(results fn a.tmps).run P w=.ok v w:=by
 have key:∀(l:List ResultVar) (ts:List RV) (vs:List Value),rvsOf P n l=some ts→rvsRd ρ w ts=some vs→
   (l.mapM (m:=Sem) fun|.tmp t=>pure (a.tmps.getD t undef)|.cell b t=>do loadVar t (←asAddr (a.tmps.getD b undef))).run P w=.ok vs w:=by
  intro l
  induction l with
  |nil=>intro ts vs h1 h2;simp only [rvsOf,Option.some.injEq] at h1;subst h1;simp only [rvsRd,Option.some.injEq] at h2;subst h2;rfl
  |cons x l ih=>
   intro ts vs h1 h2
   simp only [rvsOf,Option.bind_eq_some_iff,Option.map_eq_some_iff] at h1
   obtain ⟨r,hr1,rs1,hrs,rfl⟩:=h1
   simp only [rvsRd,Option.bind_eq_some_iff,Option.map_eq_some_iff] at h2
   obtain ⟨v1,hv1,vs1,hvs,rfl⟩:=h2
   rw [List.mapM_cons]
   have h3:=rv_run hr1 hrep hv1
   simp only [Sem.run_bind] at h3 ⊢
   cases x with
   |tmp t=>simp only at h3 ⊢;rw [h3];simp only [Result.andThen_ok,ih rs1 vs1 hrs hvs,Sem.run_pure]
   |cell b t=>simp only [Sem.run_bind] at h3 ⊢;rw [h3];simp only [Result.andThen_ok,ih rs1 vs1 hrs hvs,Sem.run_pure]
 unfold resultsOf at hr
 obtain ⟨vs,hvs,hout⟩:∃vs,rvsRd ρ w rs=some vs∧v=(if h:vs.toArray.size=1 then vs.toArray[0] else .tuple vs.toArray):=by
  match rs,hv with
  | [],hv=>simp only [retRd,rvsRd,Option.map_some,Option.some.injEq] at hv;exact ⟨[],rfl,by simp [←hv]⟩
  | [t],hv=>simp only [retRd] at hv;exact ⟨[v],by simp [rvsRd,hv],by simp⟩
  |t::u::r,hv=>
   simp only [retRd,Option.map_eq_some_iff] at hv
   obtain ⟨vs,hvs,rfl⟩:=hv
   refine ⟨vs,hvs,?_⟩
   have hl:vs.length≠1:=by
    simp only [rvsRd,Option.bind_eq_some_iff,Option.map_eq_some_iff] at hvs
    obtain ⟨_,_,_,⟨_,_,_,_,rfl⟩,rfl⟩:=hvs
    simp
   simp [hl]
 have h2:=key fn.results.toList rs vs hr hvs
 unfold results
 rw [Array.mapM_eq_mapM_toList]
 simp only [Sem.run_bind,Sem.run_map]
 refine (congrArg (fun r:Result (List Value)=>(r.andThen fun l w'=>(Result.ok l.toArray w')).andThen fun vs w'=>((pure (if h:vs.size=1 then vs[0] else .tuple vs):Sem Value)).run P w') h2).trans ?_
 simp only [Result.andThen_ok,Sem.run_pure,hout]
theorem calls_sound [Quiet P] {f:FuncId} {fn:Func} {c:Code} {n:Nat} {rs:List RV} {args:List Value} {w:World} {R:Value→World→Prop} {kc:KC} (hmx:P.follows .mixedOrders=true) (hf:P.funcs[f]? =some fn) (hb:fn.body=some c) (hn:fn.ntmps=n) (hrs:resultsOf P fn n=some rs)
  (hk:compileC P n c=kc) (ha:args.length≤n) (h:codeK P kc (retK rs R) (startEnv args) w):Spec P f args w R:=by
 subst hk
 have hrep:Rep n {tmps:=args.toArray++Array.replicate (fn.ntmps - args.toArray.size) undef,defers:= []} (startEnv args):=by
  refine ⟨rfl,by simp [hn];omega,fun t ht=>?_⟩
  by_cases hlt:t<args.length
  ·simp [startEnv,Array.getElem?_append,hlt]
  ·simp [startEnv,Array.getElem?_append,hlt,hn]
   rw [Array.getElem?_replicate,if_pos (by omega)]
 refine calls_of_wp hf hb (Code.wp_mono ?_ (code_sound hmx c _ _ _ _ hrep h))
 rintro e a' w' ⟨ρ',hr',hk⟩
 cases e
 case normal=>obtain ⟨v,hv,hR⟩:=hk;exact ⟨hr'.defers,_,run_results hrs hr' hv,_,rfl,hR⟩
 case ret=>obtain ⟨v,hv,hR⟩:=hk;exact ⟨hr'.defers,_,run_results hrs hr' hv,_,rfl,hR⟩
 all_goals exact hk.elim
end Go.K
end
