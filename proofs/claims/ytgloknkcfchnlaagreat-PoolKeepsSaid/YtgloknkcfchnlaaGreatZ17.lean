/- Contracts: a transaction's bytes, checked; by the reference. -/
import Derived.Test.YtgloknkcfchnlaaGreatZ14
import Derived.Test.YtgloknkcfchnlaaGreatZ16
set_option linter.unusedVariables false
set_option linter.unusedSimpArgs false
namespace Go.Proofs.YtgloknkcfchnlaaGreat
section
open Go Go.K
attribute [local irreducible] aF aP bG KOp.wp K.Spec leS vnS str aR eM
theorem cB {t:Tx} (hs:t.Sm) (h:aE t=0):t.Sz:=by
 unfold aE at h
 split at h
 ·cases h
 rename_i hc
 split at h
 ·cases h
 rename_i hl
 split at h
 ·cases h
 rename_i hf
 simp only [Bool.not_eq_true',Bool.not_eq_false] at hc hf
 simp only [jX,Bool.and_eq_true,decide_eq_true_eq,Bool.not_eq_true',List.any_eq_false] at hc
 simp only [aA3,Bool.or_eq_true,not_or,Bool.not_eq_true,List.any_eq_false,aLk,wM,vF,decide_eq_false_iff_not] at hl
 simp only [kU,Bool.not_eq_true',List.any_eq_false,aAd,Bool.or_eq_true,not_or,decide_eq_true_eq,decide_eq_false_iff_not,Decidable.not_not] at hf
 refine ⟨by omega,by omega,fun x hx=>?_,fun x hx=>?_,fun x hx s hs=>?_,fun x hx=>?_⟩
 ·have:=(hf x hx).1;omega
 ·have:=hc.2 x hx;simp at this;omega
 ·have:=hl.2 x hx;simp at this;have:=this s hs;omega
 ·have:=hl.1 x hx;omega
def aDp (t:Tx) (wb:Bool):Value:=if aE t=0 then .tuple #[.string (bS wb t),.int .i64 0] else .tuple #[.string ⟨#[]⟩,.int .i64 (aE t)]
theorem aF0 {M:List Nat} {cs:List Value} {t:Tx} (w:World) (ht:txR.rel M w cs t) (hs:t.Sm):K.Spec Tryz.prog F.wire_Bare [.agg cs.toArray] w fun r w'=>r=aDp t false∧Ext w w':=by
 have ht0:=ht
 obtain ⟨iv,ov,rfl,hi,ho,hv,hl⟩:=ht
 refine bAo rfl ?_
 unfold aNr
 refine oy ?_
 repeat' (first|refine go1 ?_|refine zg λ_ _=>?_|refine zi λ_ _=>?_|(first|refine zD rfl rfl (fun bp wp xp ap rp hp0=>?_)|refine zE (fun _=>rfl) rfl rfl rfl (fun bq wq xq aq rq hq0=>?_))|refine zM rfl (fun h=>?_) (fun h=>?_)|(refine zC rfl (sU (M:=M) _ (cs:=aJ t iv ov) (by exact fx) hs) ?_;rintro _ w1 ⟨rfl,x1⟩)|(have hc:aE t=0:=aNy h;refine zC rfl (aMn (M:=M) false _ (cs:=aJ t iv ov) (by exact fx) (cB hs hc)) ?_;rintro _ w2 ⟨rfl,x2⟩))
 ·exact aA rfl ⟨by rw [aDp,if_neg (bAz h)];rfl,by exact fx⟩
 ·exact aA rfl ⟨by rw [aDp,if_pos (aNy h)];rfl,by exact fx⟩
theorem aXb {M:List Nat} {cs:List Value} {t:Tx} (w:World) (ht:txR.rel M w cs t) (hs:t.Sm):K.Spec Tryz.prog F.wire_Encode [.agg cs.toArray] w fun r w'=>r=aDp t (aOj t)∧Ext w w':=by
 have ht0:=ht
 obtain ⟨iv,ov,rfl,hi,ho,hv,hl⟩:=ht
 refine aS9 rfl ?_
 unfold aG0
 refine oy ?_
 repeat' (first|refine go1 ?_|refine zg λ_ _=>?_|refine zi λ_ _=>?_|(first|refine zD rfl rfl (fun bp wp xp ap rp hp0=>?_)|refine zE (fun _=>rfl) rfl rfl rfl (fun bq wq xq aq rq hq0=>?_))|refine zB ?_ ?_|refine zM rfl (fun h=>?_) (fun h=>?_)|(refine zC rfl (sU (M:=M) _ (cs:=aJ t iv ov) (by exact fx) hs) ?_;rintro _ w1 ⟨rfl,x1⟩)|(refine zC rfl (bHq (M:=M) _ (cs:=aJ t iv ov) (by exact fx) hs) ?_;rintro _ w3 ⟨rfl,x3⟩)|(have hc:aE t=0:=aNy h;refine zC rfl (aMn (M:=M) (aOj t) _ (cs:=aJ t iv ov) (by exact fx) (cB hs hc)) ?_;rintro _ w2 ⟨rfl,x2⟩))
 all_goals first
  |exact aA rfl ⟨by rw [aDp,if_neg (bAz h)];rfl,by exact fx⟩
  |exact aA rfl ⟨by rw [aDp,if_pos (aNy h)];rfl,by exact fx⟩
theorem vJ (n:Int) (k:Nat) (hk:k=1∨k=2∨k=4∨k=8) (w:World):K.Spec Tryz.prog F.kedgeref02_Put [.int .u64 (IntKind.u64.wrap n),.int .i64 (k:Nat)] w fun r w'=>r=.string (leS (aA1 n) k)∧Ext w w':=by
 rw [aT1];exact aUn _ k hk (bF8 n) w
theorem bJ2 {α:Type} {p:α→Bool} {l:List α} {i:Nat} (h:i<l.length):(l.take (i+1)).any p=((l.take i).any p||p l[i]):=by
 rw [List.take_succ_eq_append_getElem h,List.any_append];simp only [List.any_cons,List.any_nil,Bool.or_false]
theorem bTb:(⟨#[0]⟩:ByteArray)=vnS 0:=by unfold vnS leS str;rfl
theorem bR9:(⟨#[0,1]⟩:ByteArray)=leS 0 1++leS 1 1:=by
 unfold leS
 rw [rL]
 unfold str;rfl
end
section
open Go Go.K
attribute [local irreducible] aF aP bG KOp.wp K.Spec leS vnS str aR eM
def bRt (x:TIn):Bool:=decide ((x.wit.length:Int)>0)
def xB (c:Bool) (t:Tx) (n:Nat):Bool:=!c&&(t.ins.take n).any bRt
theorem bOh {c:Bool} {t:Tx} {i:Nat} (h:i<t.ins.length):xB c t (i+1)=(xB c t i||(!c&&bRt t.ins[i])):=by
 rw [xB,bJ2 h,xB];cases c<;>rfl
theorem bFr {c:Bool} {t:Tx} {i:Nat} (h:t.ins.length≤i):xB c t i=(!c&&aOj t):=by
 rw [xB,tLe h];rfl
theorem r1F (t:Tx):leS (aA1 t.ver) 4++vnS t.ins.length=enc1 false t++eM sW (t.ins.take 0):=by
 rw [←e1F,bGi]
theorem r1T (t:Tx):(leS (aA1 t.ver) 4++⟨#[0,1]⟩)++vnS t.ins.length=enc1 true t++eM sW (t.ins.take 0):=by
 rw [←e1T,bGi,bR9]
 have:aA1 0=0:=rfl
 have:aA1 1=1:=rfl
 simp only [ByteArray.append_assoc, *]
set_option maxHeartbeats 4000000 in
theorem aZ1 {M : List Nat} {cs : List Value} {t : Tx} (c : Bool) (w : World) (ht : txR.rel M w cs t) (hs : t.Sz) : K.Spec Tryz.prog F.kedgeref06_Bytes [.agg cs.toArray, .bool c] w fun r w' => r = .string (bS (!c && aOj t) t) ∧ Ext w w' := by
  obtain ⟨iv, ov, rfl, hi, ho, hv, hl⟩ := ht
  have g1 := hs.ins
  have g2 := hs.outs
  have g3 : (⟨#[0]⟩ : ByteArray).size = 1 := rfl
  have g4 : (⟨#[0, 1]⟩ : ByteArray).size = 2 := rfl
  have u1 := fun wb => Tx.Sz.e1 (t := t) wb
  have u2 := hs.e2
  have u3 := hs.e3
  have u4 := hs.e4
  have uI := hs.inC
  have uO := hs.outC
  have uW := hs.witC
  refine aHv rfl ?_
  unfold vE
  refine oy ?_
  repeat' (first|refine go1 ?_|refine zg λ_ _=>?_|refine zi λ_ _=>?_|(first|refine zD rfl rfl (fun bp wp xp ap rp hp0=>?_)|refine zE (fun _=>rfl) rfl rfl rfl (fun bq wq xq aq rq hq0=>?_))|refine zG rfl (by exact fx) ?_|refine zL rfl (fun h => ?_) (fun h => ?_)|refine zK rfl (fun h => ?_) (fun h => ?_)|refine zM rfl (fun h5 => ?_) (fun h5 => ?_)|(refine mE rfl rfl ?_ ?_;(focus(try simp only [ByteArray.size_append, cQ];omega)))|(refine aI (fun (n : Nat) w' => wp = w' ∧ n ≤ t.ins.length) (fun n => [(1, .bool c), (2, .pointer (some ⟨bp, 0, none⟩)), (5, .bool (xB c t n)), (6, .int .i64 n)]) (fun n => t.ins.length - n) 0 ⟨rfl, rfl, congrArg Value.bool (by rw [xB, List.take_zero]; cases c <;> rfl), rfl, trivial⟩ ⟨rfl, by omega⟩ ?_; rintro n ρ0 _ ⟨rfl, hn1⟩)|(refine aM rfl rfl (n := n) (l := t.ins) (by exact fx) rfl (by omega) (fun ad cs r2 he => ?_); obtain ⟨wv, rfl, hw, _⟩ := he; obtain ⟨_, _, rfl⟩ := hw.form; have hnl : n < t.ins.length := (by omega))|(have v1 := u1 true; refine aI (fun (i : Nat) w' => Ext wp w' ∧ i ≤ t.ins.length) (fun i => [(1, .bool c), (2, .pointer (some ⟨bp, 0, none⟩)), (5, .bool true), (7, .string (enc1 true t ++ eM sW (t.ins.take i))), (9, .int .i64 i)]) (fun i => t.ins.length - i) 0 ⟨rfl, rfl, congrArg Value.bool h5, congrArg Value.string (r1T t), rfl, trivial⟩ ⟨by exact fx, by omega⟩ ?_; rintro i ρ w3 ⟨x3, hi1⟩; have v2 := uI i)|(have v1 := u2 true; refine aI (fun (j : Nat) w' => Ext wp w' ∧ j ≤ t.outs.length) (fun j => [(1, .bool c), (2, .pointer (some ⟨bp, 0, none⟩)), (5, .bool true), (7, .string (enc2 true t ++ eM qM (t.outs.take j))), (12, .int .i64 j)]) (fun j => t.outs.length - j) 0 ⟨rfl, rfl, rfl, congrArg Value.string (bOy true t i (by omega)), rfl, trivial⟩ ⟨by exact fx, by omega⟩ ?_; rintro j ρ3 w4 ⟨x4, hj1⟩; have v2 := uO j)|(have v1 := u1 false; refine aI (fun (i : Nat) w' => Ext wp w' ∧ i ≤ t.ins.length) (fun i => [(1, .bool c), (2, .pointer (some ⟨bp, 0, none⟩)), (5, .bool false), (7, .string (enc1 false t ++ eM sW (t.ins.take i))), (9, .int .i64 i)]) (fun i => t.ins.length - i) 0 ⟨rfl, rfl, congrArg Value.bool h5, congrArg Value.string (r1F t), rfl, trivial⟩ ⟨by exact fx, by omega⟩ ?_; rintro i ρ w3 ⟨x3, hi1⟩; have v2 := uI i)|(have v1 := u2 false; refine aI (fun (j : Nat) w' => Ext wp w' ∧ j ≤ t.outs.length) (fun j => [(1, .bool c), (2, .pointer (some ⟨bp, 0, none⟩)), (5, .bool false), (7, .string (enc2 false t ++ eM qM (t.outs.take j))), (12, .int .i64 j)]) (fun j => t.outs.length - j) 0 ⟨rfl, rfl, rfl, congrArg Value.string (bOy false t i (by omega)), rfl, trivial⟩ ⟨by exact fx, by omega⟩ ?_; rintro j ρ3 w4 ⟨x4, hj1⟩; have v2 := uO j)|(have v1 := u3 true; refine aI (fun (a : Nat) w' => Ext wp w' ∧ a ≤ t.ins.length) (fun a => [(1, .bool c), (2, .pointer (some ⟨bp, 0, none⟩)), (5, .bool true), (7, .string (enc3 true t ++ eM lA (t.ins.take a))), (14, .int .i64 a)]) (fun a => t.ins.length - a) 0 ⟨rfl, rfl, rfl, congrArg Value.string (bS6 true t j (by omega)), rfl, trivial⟩ ⟨by exact fx, by omega⟩ ?_; rintro a ρ4 w5 ⟨x5, ha1⟩; have v2 := uW a)|(have v1 := u3 false; refine aI (fun (_ : Unit) w' => Ext wp w') (fun _ => [(1, .bool c), (2, .pointer (some ⟨bp, 0, none⟩)), (5, .bool false), (7, .string (enc3 false t)), (14, .int .i64 0)]) (fun _ => 0) () ⟨rfl, rfl, rfl, congrArg Value.string (by rw [enc3, tLe (l := t.outs) (i := j) (by omega)]), rfl, trivial⟩ (by exact fx) ?_; rintro _ ρ4 w5 x5)|(have hal : a < t.ins.length := (by omega); refine aI (fun (k : Nat) w' => Ext wp w' ∧ k ≤ t.ins[a].wit.length) (fun k => [(1, .bool c), (2, .pointer (some ⟨bp, 0, none⟩)), (5, .bool true), (7, .string (enc3 true t ++ eM lA (t.ins.take a) ++ vnS t.ins[a].wit.length ++ eM uC (t.ins[a].wit.take k))), (14, .int .i64 a), (15, .int .i64 k)]) (fun k => t.ins[a].wit.length - k) 0 ⟨rfl, rfl, rfl, congrArg Value.string (bKk _ _ _), rfl, rfl, trivial⟩ ⟨by exact fx, by omega⟩ ?_; rintro k ρ5 w6 ⟨x6, hk1⟩; have v3 := hs.itemC (gMe hal) k; have v4 := fH t.ins[a].wit.length)|(refine aM rfl rfl (n := k) (l := t.ins[a].wit) (by exact fx) rfl (by omega) (fun ad cs r4 he => ?_); have hq : cs = [Value.string t.ins[a].wit[k]] := he; rw [hq] at r4; have hkl : k < t.ins[a].wit.length := (by omega); have hit := hs.item _ (gMe hal) _ (gMe hkl))|(refine aM rfl rfl (n := i) (l := t.ins) (by exact fx) rfl (by omega) (fun ad cs r2 he => ?_); obtain ⟨wv, rfl, hw, _⟩ := he; obtain ⟨_, _, rfl⟩ := hw.form; have hil : i < t.ins.length := (by omega); have hid := hs.ids _ (gMe hil); have hwl := hs.wit _ (gMe hil))|(refine aM rfl rfl (n := a) (l := t.ins) (by exact fx) rfl (by omega) (fun ad cs r2 he => ?_); obtain ⟨wv, rfl, hw, _⟩ := he; obtain ⟨_, _, rfl⟩ := hw.form; have hal : a < t.ins.length := (by omega); have hid := hs.ids _ (gMe hal); have hwl := hs.wit _ (gMe hal))|(refine aM rfl rfl (n := j) (l := t.outs) (by exact fx) rfl (by omega) (fun ad cs r2 he => ?_); obtain ⟨rfl, _⟩ := he; have hjl : j < t.outs.length := (by omega); have hsc := hs.scr _ (gMe hjl))|(refine zC rfl (pT t.ins.length (by omega) _) ?_; rintro _ w2 ⟨rfl, x2⟩; have hvn := fH t.ins.length)|(refine zC rfl (pT t.outs.length (by omega) _) ?_; rintro _ w2 ⟨rfl, x2⟩; have hvn := fH t.outs.length)|(refine zC rfl (pT t.outs[j].s.size (by omega) _) ?_; rintro _ w2 ⟨rfl, x2⟩; have hvn := fH t.outs[j].s.size)|(refine zC rfl (pT t.ins[a].wit.length (by omega) _) ?_; rintro _ w2 ⟨rfl, x2⟩; have hvn := fH t.ins[a].wit.length)|(refine zC rfl (pT t.ins[a].wit[k].size (by omega) _) ?_; rintro _ w2 ⟨rfl, x2⟩; have hvn := fH t.ins[a].wit[k].size)|(refine zC rfl (vJ t.ver 4 (by decide) _) ?_; rintro _ w2 ⟨rfl, x2⟩)|(refine zC rfl (vJ t.ins[i].p.i 4 (by decide) _) ?_; rintro _ w2 ⟨rfl, x2⟩)|(refine zC rfl (vJ t.ins[i].q 4 (by decide) _) ?_; rintro _ w2 ⟨rfl, x2⟩)|(refine zC rfl (vJ t.outs[j].v 8 (by decide) _) ?_; rintro _ w2 ⟨rfl, x2⟩)|(refine zC rfl (vJ t.lock 4 (by decide) _) ?_; rintro _ w2 ⟨rfl, x2⟩))
  all_goals first
    | exact ⟨n + 1, ⟨rfl, rfl, congrArg Value.bool (by rw [bOh (by omega)]; simp_all [bRt]), rfl, trivial⟩, ⟨rfl, by omega⟩, by omega⟩
    | exact ⟨i + 1, ⟨rfl, rfl, rfl, congrArg Value.string (by rw [iY _ hil, sW, ← bTb]; simp only [ByteArray.append_assoc]), rfl, trivial⟩, ⟨by exact fx, by omega⟩, by omega⟩
    | exact ⟨j + 1, ⟨rfl, rfl, rfl, congrArg Value.string (by rw [iY _ hjl, qM]; simp only [ByteArray.append_assoc]), rfl, trivial⟩, ⟨by exact fx, by omega⟩, by omega⟩
    | exact ⟨k + 1, ⟨rfl, rfl, rfl, congrArg Value.string (by rw [iY _ hkl, uC]; simp only [ByteArray.append_assoc]), rfl, rfl, trivial⟩, ⟨by exact fx, by omega⟩, by omega⟩
    | exact ⟨a + 1, ⟨rfl, rfl, rfl, congrArg Value.string (by rw [iY _ hal, lA, tLe (l := t.ins[a].wit) (i := k) (by omega)]; simp only [ByteArray.append_assoc]), rfl, trivial⟩, ⟨by exact fx, by omega⟩, by omega⟩
    | (have hx : (!c && aOj t) = true := by rw [← bFr (c := c) (i := n) (by omega)]; exact h5
       exact aA rfl ⟨congrArg Value.string (by rw [hx, tLe (l := t.ins) (i := a) (by omega)]; rfl), by exact fx⟩)
    | (have hx : (!c && aOj t) = false := by rw [← bFr (c := c) (i := n) (by omega)]; exact h5
       exact aA rfl ⟨congrArg Value.string (by rw [hx, bS, enc4, if_neg (by decide), aMj]), by exact fx⟩)
    | trace_state
end
end Go.Proofs.YtgloknkcfchnlaaGreat
