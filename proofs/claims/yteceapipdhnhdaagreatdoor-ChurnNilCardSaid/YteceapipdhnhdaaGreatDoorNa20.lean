/- Contracts: a transaction's bytes, checked; by the reference. -/
import Derived.Test.YteceapipdhnhdaaGreatDoorNa17
import Derived.Test.YteceapipdhnhdaaGreatDoorNa19
set_option linter.unusedVariables false
set_option linter.unusedSimpArgs false
namespace Go.Proofs.YteceapipdhnhdaaGreatDoor
section
open Go Go.K
attribute [local irreducible] aH aM aY KOp.wp K.Spec leS vnS str aP dV
theorem cI {t:Tx} (hs:t.Sm) (h:aG t=0):t.Sz:=by
 unfold aG at h
 split at h
 ·cases h
 rename_i hc
 split at h
 ·cases h
 rename_i hl
 split at h
 ·cases h
 rename_i hf
 simp only [Bool.not_eq_true',Bool.not_eq_false] at hc hf
 simp only [iW,Bool.and_eq_true,decide_eq_true_eq,Bool.not_eq_true',List.any_eq_false] at hc
 simp only [yM,Bool.or_eq_true,not_or,Bool.not_eq_true,List.any_eq_false,aJ3,uH,sX,decide_eq_false_iff_not] at hl
 simp only [jV,Bool.not_eq_true',List.any_eq_false,xU,Bool.or_eq_true,not_or,decide_eq_true_eq,decide_eq_false_iff_not,Decidable.not_not] at hf
 refine ⟨by omega,by omega,fun x hx=>?_,fun x hx=>?_,fun x hx s hs=>?_,fun x hx=>?_⟩
 ·have:=(hf x hx).1;omega
 ·have:=hc.2 x hx;simp at this;omega
 ·have:=hl.2 x hx;simp at this;have:=this s hs;omega
 ·have:=hl.1 x hx;omega
def aB6 (t:Tx) (wb:Bool):Value:=if aG t=0 then .tuple #[.string (bK wb t),.int .i64 0] else .tuple #[.string ⟨#[]⟩,.int .i64 (aG t)]
theorem aEg {M:List Nat} {cs:List Value} {t:Tx} (w:World) (ht:txR.rel M w cs t) (hs:t.Sm):K.Spec Tryz.prog F.wire_Bare [.agg cs.toArray] w fun r w'=>r=aB6 t false∧Ext w w':=by
 have ht0:=ht
 obtain ⟨iv,ov,rfl,hi,ho,hv,hl⟩:=ht
 refine aY8 rfl ?_
 unfold aMa
 refine oy ?_
 repeat' (first|(first|refine go2 ?_|fail)|(first|refine zD rfl rfl (fun bp wp xp ap rp hp0=>?_)|refine zE (fun _=>rfl) rfl rfl rfl (fun bq wq xq aq rq hq0=>?_))|refine zM rfl (fun h=>?_) (fun h=>?_)|(refine zC rfl (rB (M:=M) _ (cs:=aK t iv ov) (by exact fx) hs) ?_;rintro _ w1 ⟨rfl,x1⟩)|(have hc:aG t=0:=aMg h;refine zC rfl (aK8 (M:=M) false _ (cs:=aK t iv ov) (by exact fx) (cI hs hc)) ?_;rintro _ w2 ⟨rfl,x2⟩))
 ·exact aA rfl ⟨by rw [aB6,if_neg (aZj h)];rfl,by exact fx⟩
 ·exact aA rfl ⟨by rw [aB6,if_pos (aMg h)];rfl,by exact fx⟩
theorem aVt {M:List Nat} {cs:List Value} {t:Tx} (w:World) (ht:txR.rel M w cs t) (hs:t.Sm):K.Spec Tryz.prog F.wire_Encode [.agg cs.toArray] w fun r w'=>r=aB6 t (aPs t)∧Ext w w':=by
 have ht0:=ht
 obtain ⟨iv,ov,rfl,hi,ho,hv,hl⟩:=ht
 refine aRa rfl ?_
 unfold aFd
 refine oy ?_
 repeat' (first|(first|refine go2 ?_|fail)|(first|refine zD rfl rfl (fun bp wp xp ap rp hp0=>?_)|refine zE (fun _=>rfl) rfl rfl rfl (fun bq wq xq aq rq hq0=>?_))|refine zB ?_ ?_|refine zM rfl (fun h=>?_) (fun h=>?_)|(refine zC rfl (rB (M:=M) _ (cs:=aK t iv ov) (by exact fx) hs) ?_;rintro _ w1 ⟨rfl,x1⟩)|(refine zC rfl (bGd (M:=M) _ (cs:=aK t iv ov) (by exact fx) hs) ?_;rintro _ w3 ⟨rfl,x3⟩)|(have hc:aG t=0:=aMg h;refine zC rfl (aK8 (M:=M) (aPs t) _ (cs:=aK t iv ov) (by exact fx) (cI hs hc)) ?_;rintro _ w2 ⟨rfl,x2⟩))
 all_goals first
  |exact aA rfl ⟨by rw [aB6,if_neg (aZj h)];rfl,by exact fx⟩
  |exact aA rfl ⟨by rw [aB6,if_pos (aMg h)];rfl,by exact fx⟩
theorem tH (n:Int) (k:Nat) (hk:k=1∨k=2∨k=4∨k=8) (w:World):K.Spec Tryz.prog F.kedgeref02_Put [.int .u64 (IntKind.u64.wrap n),.int .i64 (k:Nat)] w fun r w'=>r=.string (leS (yK n) k)∧Ext w w':=by
 rw [aR9];exact aSx _ k hk (bEx n) w
theorem bIo {α:Type} {p:α→Bool} {l:List α} {i:Nat} (h:i<l.length):(l.take (i+1)).any p=((l.take i).any p||p l[i]):=by
 rw [List.take_succ_eq_append_getElem h,List.any_append];simp only [List.any_cons,List.any_nil,Bool.or_false]
theorem bR4:(⟨#[0]⟩:ByteArray)=vnS 0:=by unfold vnS leS str;rfl
theorem bQ0:(⟨#[0,1]⟩:ByteArray)=leS 0 1++leS 1 1:=by
 unfold leS
 rw [aOj]
 unfold str;rfl
end
section
open Go Go.K
attribute [local irreducible] aH aM aY KOp.wp K.Spec leS vnS str aP dV
def bQj (x:TIn):Bool:=decide ((x.wit.length:Int)>0)
def xB (c:Bool) (t:Tx) (n:Nat):Bool:=!c&&(t.ins.take n).any bQj
theorem bMz {c:Bool} {t:Tx} {i:Nat} (h:i<t.ins.length):xB c t (i+1)=(xB c t i||(!c&&bQj t.ins[i])):=by
 rw [xB,bIo h,xB];grind
theorem bEd {c:Bool} {t:Tx} {i:Nat} (h:t.ins.length≤i):xB c t i=(!c&&aPs t):=by
 rw [xB,tLe h];rfl
theorem r1F (t:Tx):leS (yK t.ver) 4++vnS t.ins.length=enc1 false t++dV rC (t.ins.take 0):=by
 rw [←e1F,bFa]
theorem r1T (t:Tx):(leS (yK t.ver) 4++⟨#[0,1]⟩)++vnS t.ins.length=enc1 true t++dV rC (t.ins.take 0):=by
 rw [←e1T,bFa,bQ0]
 have:yK 0=0:=rfl
 have:yK 1=1:=rfl
 grind [ByteArray.append_assoc]
set_option maxHeartbeats 4000000 in
theorem aYn {M : List Nat} {cs : List Value} {t : Tx} (c : Bool) (w : World) (ht : txR.rel M w cs t) (hs : t.Sz) : K.Spec Tryz.prog F.kedgeref06_Bytes [.agg cs.toArray, .bool c] w fun r w' => r = .string (bK (!c && aPs t) t) ∧ Ext w w' := by
  obtain ⟨iv, ov, rfl, hi, ho, hv, hl⟩ := ht
  have g1 := hs.ins
  have g2 := hs.outs
  have g3 : (⟨#[0]⟩ : ByteArray).size = 1 := rfl
  have g4 : (⟨#[0, 1]⟩ : ByteArray).size = 2 := rfl
  have u1 := fun wb => Tx.Sz.e1 (t := t) wb
  have u2 := hs.e2
  have u3 := hs.e3
  have u4 := hs.e4
  have uI := hs.inC
  have uO := hs.outC
  have uW := hs.witC
  refine aGa rfl ?_
  unfold sW
  refine oy ?_
  repeat' (first|(first|refine go2 ?_|fail)|(first|refine zD rfl rfl (fun bp wp xp ap rp hp0=>?_)|refine zE (fun _=>rfl) rfl rfl rfl (fun bq wq xq aq rq hq0=>?_))|refine zG rfl (by exact fx) ?_|refine zL rfl (fun h => ?_) (fun h => ?_)|refine zK rfl (fun h => ?_) (fun h => ?_)|refine zM rfl (fun h5 => ?_) (fun h5 => ?_)|(refine lK rfl rfl ?_ ?_;(focus(try simp only [ByteArray.size_append, cN];omega)))|(refine aJ (fun (n : Nat) w' => wp = w' ∧ n ≤ t.ins.length) (fun n => [(1, .bool c), (2, .pointer (some ⟨bp, 0, none⟩)), (5, .bool (xB c t n)), (6, .int .i64 n)]) (fun n => t.ins.length - n) 0 ⟨rfl, rfl, congrArg Value.bool (by rw [xB, List.take_zero]; cases c <;> rfl), rfl, trivial⟩ ⟨rfl, by omega⟩ ?_; rintro n ρ0 _ ⟨rfl, hn1⟩)|(refine aR rfl rfl (n := n) (l := t.ins) (by exact fx) rfl (by omega) (fun ad cs r2 he => ?_); obtain ⟨wv, rfl, hw, _⟩ := he; obtain ⟨_, _, rfl⟩ := hw.form; have hnl : n < t.ins.length := (by omega))|(have v1 := u1 true; refine aJ (fun (i : Nat) w' => Ext wp w' ∧ i ≤ t.ins.length) (fun i => [(1, .bool c), (2, .pointer (some ⟨bp, 0, none⟩)), (5, .bool true), (7, .string (enc1 true t ++ dV rC (t.ins.take i))), (9, .int .i64 i)]) (fun i => t.ins.length - i) 0 ⟨rfl, rfl, congrArg Value.bool h5, congrArg Value.string (r1T t), rfl, trivial⟩ ⟨by exact fx, by omega⟩ ?_; rintro i ρ w3 ⟨x3, hi1⟩; have v2 := uI i)|(have v1 := u2 true; refine aJ (fun (j : Nat) w' => Ext wp w' ∧ j ≤ t.outs.length) (fun j => [(1, .bool c), (2, .pointer (some ⟨bp, 0, none⟩)), (5, .bool true), (7, .string (enc2 true t ++ dV nV (t.outs.take j))), (12, .int .i64 j)]) (fun j => t.outs.length - j) 0 ⟨rfl, rfl, rfl, congrArg Value.string (bNk true t i (by omega)), rfl, trivial⟩ ⟨by exact fx, by omega⟩ ?_; rintro j ρ3 w4 ⟨x4, hj1⟩; have v2 := uO j)|(have v1 := u1 false; refine aJ (fun (i : Nat) w' => Ext wp w' ∧ i ≤ t.ins.length) (fun i => [(1, .bool c), (2, .pointer (some ⟨bp, 0, none⟩)), (5, .bool false), (7, .string (enc1 false t ++ dV rC (t.ins.take i))), (9, .int .i64 i)]) (fun i => t.ins.length - i) 0 ⟨rfl, rfl, congrArg Value.bool h5, congrArg Value.string (r1F t), rfl, trivial⟩ ⟨by exact fx, by omega⟩ ?_; rintro i ρ w3 ⟨x3, hi1⟩; have v2 := uI i)|(have v1 := u2 false; refine aJ (fun (j : Nat) w' => Ext wp w' ∧ j ≤ t.outs.length) (fun j => [(1, .bool c), (2, .pointer (some ⟨bp, 0, none⟩)), (5, .bool false), (7, .string (enc2 false t ++ dV nV (t.outs.take j))), (12, .int .i64 j)]) (fun j => t.outs.length - j) 0 ⟨rfl, rfl, rfl, congrArg Value.string (bNk false t i (by omega)), rfl, trivial⟩ ⟨by exact fx, by omega⟩ ?_; rintro j ρ3 w4 ⟨x4, hj1⟩; have v2 := uO j)|(have v1 := u3 true; refine aJ (fun (a : Nat) w' => Ext wp w' ∧ a ≤ t.ins.length) (fun a => [(1, .bool c), (2, .pointer (some ⟨bp, 0, none⟩)), (5, .bool true), (7, .string (enc3 true t ++ dV lP (t.ins.take a))), (14, .int .i64 a)]) (fun a => t.ins.length - a) 0 ⟨rfl, rfl, rfl, congrArg Value.string (bRz true t j (by omega)), rfl, trivial⟩ ⟨by exact fx, by omega⟩ ?_; rintro a ρ4 w5 ⟨x5, ha1⟩; have v2 := uW a)|(have v1 := u3 false; refine aJ (fun (_ : Unit) w' => Ext wp w') (fun _ => [(1, .bool c), (2, .pointer (some ⟨bp, 0, none⟩)), (5, .bool false), (7, .string (enc3 false t)), (14, .int .i64 0)]) (fun _ => 0) () ⟨rfl, rfl, rfl, congrArg Value.string (by rw [enc3, tLe (l := t.outs) (i := j) (by omega)]), rfl, trivial⟩ (by exact fx) ?_; rintro _ ρ4 w5 x5)|(have hal : a < t.ins.length := (by omega); refine aJ (fun (k : Nat) w' => Ext wp w' ∧ k ≤ t.ins[a].wit.length) (fun k => [(1, .bool c), (2, .pointer (some ⟨bp, 0, none⟩)), (5, .bool true), (7, .string (enc3 true t ++ dV lP (t.ins.take a) ++ vnS t.ins[a].wit.length ++ dV rY (t.ins[a].wit.take k))), (14, .int .i64 a), (15, .int .i64 k)]) (fun k => t.ins[a].wit.length - k) 0 ⟨rfl, rfl, rfl, congrArg Value.string (bI2 _ _ _), rfl, rfl, trivial⟩ ⟨by exact fx, by omega⟩ ?_; rintro k ρ5 w6 ⟨x6, hk1⟩; have v3 := hs.itemC (gMe hal) k; have v4 := eG t.ins[a].wit.length)|(refine aR rfl rfl (n := k) (l := t.ins[a].wit) (by exact fx) rfl (by omega) (fun ad cs r4 he => ?_); have hq : cs = [Value.string t.ins[a].wit[k]] := he; rw [hq] at r4; have hkl : k < t.ins[a].wit.length := (by omega); have hit := hs.item _ (gMe hal) _ (gMe hkl))|(refine aR rfl rfl (n := i) (l := t.ins) (by exact fx) rfl (by omega) (fun ad cs r2 he => ?_); obtain ⟨wv, rfl, hw, _⟩ := he; obtain ⟨_, _, rfl⟩ := hw.form; have hil : i < t.ins.length := (by omega); have hid := hs.ids _ (gMe hil); have hwl := hs.wit _ (gMe hil))|(refine aR rfl rfl (n := a) (l := t.ins) (by exact fx) rfl (by omega) (fun ad cs r2 he => ?_); obtain ⟨wv, rfl, hw, _⟩ := he; obtain ⟨_, _, rfl⟩ := hw.form; have hal : a < t.ins.length := (by omega); have hid := hs.ids _ (gMe hal); have hwl := hs.wit _ (gMe hal))|(refine aR rfl rfl (n := j) (l := t.outs) (by exact fx) rfl (by omega) (fun ad cs r2 he => ?_); obtain ⟨rfl, _⟩ := he; have hjl : j < t.outs.length := (by omega); have hsc := hs.scr _ (gMe hjl))|(refine zC rfl (nA t.ins.length (by omega) _) ?_; rintro _ w2 ⟨rfl, x2⟩; have hvn := eG t.ins.length)|(refine zC rfl (nA t.outs.length (by omega) _) ?_; rintro _ w2 ⟨rfl, x2⟩; have hvn := eG t.outs.length)|(refine zC rfl (nA t.outs[j].s.size (by omega) _) ?_; rintro _ w2 ⟨rfl, x2⟩; have hvn := eG t.outs[j].s.size)|(refine zC rfl (nA t.ins[a].wit.length (by omega) _) ?_; rintro _ w2 ⟨rfl, x2⟩; have hvn := eG t.ins[a].wit.length)|(refine zC rfl (nA t.ins[a].wit[k].size (by omega) _) ?_; rintro _ w2 ⟨rfl, x2⟩; have hvn := eG t.ins[a].wit[k].size)|(refine zC rfl (tH t.ver 4 (by decide) _) ?_; rintro _ w2 ⟨rfl, x2⟩)|(refine zC rfl (tH t.ins[i].p.i 4 (by decide) _) ?_; rintro _ w2 ⟨rfl, x2⟩)|(refine zC rfl (tH t.ins[i].q 4 (by decide) _) ?_; rintro _ w2 ⟨rfl, x2⟩)|(refine zC rfl (tH t.outs[j].v 8 (by decide) _) ?_; rintro _ w2 ⟨rfl, x2⟩)|(refine zC rfl (tH t.lock 4 (by decide) _) ?_; rintro _ w2 ⟨rfl, x2⟩))
  all_goals first
    | exact ⟨n + 1, ⟨rfl, rfl, congrArg Value.bool (by rw [bMz (by omega)]; simp_all [bQj]), rfl, trivial⟩, ⟨rfl, by omega⟩, by omega⟩
    | exact ⟨i + 1, ⟨rfl, rfl, rfl, congrArg Value.string (by rw [iB _ hil, rC, ← bR4]; simp only [ByteArray.append_assoc]), rfl, trivial⟩, ⟨by exact fx, by omega⟩, by omega⟩
    | exact ⟨j + 1, ⟨rfl, rfl, rfl, congrArg Value.string (by rw [iB _ hjl, nV]; simp only [ByteArray.append_assoc]), rfl, trivial⟩, ⟨by exact fx, by omega⟩, by omega⟩
    | exact ⟨k + 1, ⟨rfl, rfl, rfl, congrArg Value.string (by rw [iB _ hkl, rY]; simp only [ByteArray.append_assoc]), rfl, rfl, trivial⟩, ⟨by exact fx, by omega⟩, by omega⟩
    | exact ⟨a + 1, ⟨rfl, rfl, rfl, congrArg Value.string (by rw [iB _ hal, lP, tLe (l := t.ins[a].wit) (i := k) (by omega)]; simp only [ByteArray.append_assoc]), rfl, trivial⟩, ⟨by exact fx, by omega⟩, by omega⟩
    | (have hx : (!c && aPs t) = true := by rw [← bEd (c := c) (i := n) (by omega)]; exact h5
       exact aA rfl ⟨congrArg Value.string (by rw [hx, tLe (l := t.ins) (i := a) (by omega)]; rfl), by exact fx⟩)
    | (have hx : (!c && aPs t) = false := by rw [← bEd (c := c) (i := n) (by omega)]; exact h5
       exact aA rfl ⟨congrArg Value.string (by rw [hx, bK, enc4, if_neg (by decide), aK4]), by exact fx⟩)
    | trace_state
end
end Go.Proofs.YteceapipdhnhdaaGreatDoor
