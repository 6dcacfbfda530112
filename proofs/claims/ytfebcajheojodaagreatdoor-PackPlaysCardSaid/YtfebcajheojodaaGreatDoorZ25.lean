/- Contracts: dust; one amount less another one. Contracts: num -/
import Derived.Test.YtfebcajheojodaaGreatDoorZ24
set_option linter.unusedVariables false
set_option linter.unusedSimpArgs false
namespace Go.Proofs.YtfebcajheojodaaGreatDoor
section
open Go Go.K
attribute [local irreducible] aO aU bQ KOp.wp K.Spec u32 leS vnS str aV
def aB9 (y:TOut):Bool:=decide ((y.s.size:Int)≤40)
theorem aOq (y:TOut) (hs:y.s.size≤1000000) (w:World):K.Spec Tryz.prog F.dust_Size [.agg (fD y).toArray] w fun r w'=>r=.tuple #[.int .i64 (if aB9 y then (oA y:Nat) else 0),.int .i64 (if aB9 y then 0 else 20)]∧Ext w w':=by
 have h9:=dY y.s.size
 refine aYy rfl ?_
 unfold aMs
 refine oy ?_
 repeat' (first|refine zD rfl rfl (fun bp wp xp ap (rp:Row wp ⟨bp,0,none⟩ (fD y)) hp0=>?_)|refine zL (p:=((y.s.size:Nat):Int)>40) rfl (fun h=>?_) (fun h=>?_)|refine aJ (d:=some 11) (.int .u64 (y.s.size:Nat)) rfl (congrArg (fun n=>some (Value.int .u64 n)) (fF (by omega) (by omega))) ?_|(refine zC (d:=some 12) rfl (aTc y.s.size (by omega) _) ?_;rintro _ w3 ⟨rfl,x3⟩)|refine go1 ?_|refine zg λ_ _=>?_|refine zi λ_ _=>?_)
 ·have e:aB9 y=false:=dFa (by omega)
  rw [e]
  exact aC rfl ⟨rfl,by exact fx⟩
 ·have e:aB9 y=true:=dTr (by omega)
  rw [e]
  exact aC rfl ⟨congrArg (fun z=>Value.tuple #[.int .i64 z,.int .i64 0]) (by simp only [oA,if_true];omega),by exact fx⟩
theorem aMp (y:TOut) (hs:y.s.size≤1000000) (w:World):K.Spec Tryz.prog F.dust_Least [.agg (fD y).toArray] w fun r w'=>r=.tuple #[.int .i64 (if aB9 y then ((3000*(oA y+67)+999) / 1000:Nat) else 0),.int .i64 (if aB9 y then 0 else 20)]∧Ext w w':=by
 have h9:=dY y.s.size
 refine aTm rfl ?_
 unfold aIg
 refine oy ?_
 cases he:aB9 y with
 |false=>
  repeat' (first|refine zD rfl rfl (fun bp wp xp ap (rp:Row wp ⟨bp,0,none⟩ (fD y)) hp0=>?_)|(refine zC (d:=some 8) rfl (aOq y hs _) ?_;rintro _ w3 ⟨rfl,x3⟩;rw [he])|refine go1 ?_|refine zg λ_ _=>?_|refine zi λ_ _=>?_)
  exact aC rfl ⟨rfl,by exact fx⟩
 |true=>
  have h40:y.s.size≤40:=by have:=of_decide_eq_true he;omega
  have hz:oA y≤1000:=by unfold oA;omega
  repeat' (first|refine zD rfl rfl (fun bp wp xp ap (rp:Row wp ⟨bp,0,none⟩ (fD y)) hp0=>?_)|(refine zC (d:=some 8) rfl (aOq y hs _) ?_;rintro _ w3 ⟨rfl,x3⟩;rw [he])|(refine zC (d:=some 16) (congrArg (fun z=> [Value.int .i64 3000,Value.int .i64 z]) (show ((oA y:Nat):Int)+67=((oA y+67:Nat):Int) by omega)) (aDt 3000 (oA y+67) (by decide) (by omega) _) ?_;rintro _ w4 ⟨rfl,x4⟩)|refine go1 ?_|refine zg λ_ _=>?_|refine zi λ_ _=>?_)
  exact aC rfl ⟨rfl,by exact fx⟩
theorem bJ6:cM Tryz.prog F.dust_Dust=true:=by kernel_rfl
theorem bEk (y:TOut) (hs:y.s.size≤1000000) (w:World):K.Spec Tryz.prog F.dust_Dust [.agg (fD y).toArray] w fun r w'=>r=.bool (aFa y)∧Ext w w':=by
 refine aWk rfl ?_
 unfold aMj
 refine oy ?_
 cases he:aB9 y with
 |false=>
  have e:aFa y=false:=by unfold aFa;rw [show decide ((y.s.size:Int)≤40)=false from he];rfl
  rw [e]
  repeat' (first|refine zD rfl rfl (fun bp wp xp ap (rp:Row wp ⟨bp,0,none⟩ (fD y)) hp0=>?_)|(refine zC (d:=some 7) rfl (aMp y hs _) ?_;rintro _ w3 ⟨rfl,x3⟩;rw [he])|refine go1 ?_|refine zg λ_ _=>?_|refine zi λ_ _=>?_)
  exact aC rfl ⟨rfl,by exact fx⟩
 |true=>
  have e:aFa y=decide (y.v<(((3000*(oA y+67)+999) / 1000:Nat):Int)):=by unfold aFa;rw [show decide ((y.s.size:Int)≤40)=true from he];rfl
  rw [e]
  repeat' (first|refine zD rfl rfl (fun bp wp xp ap (rp:Row wp ⟨bp,0,none⟩ (fD y)) hp0=>?_)|(refine zC (d:=some 7) rfl (aMp y hs _) ?_;rintro _ w3 ⟨rfl,x3⟩;rw [he])|refine go1 ?_|refine zg λ_ _=>?_|refine zi λ_ _=>?_)
  exact aC rfl ⟨rfl,by exact fx⟩
theorem aPb {M:List Nat} {cs:List Value} {t:Tx} (w:World) (ht:txR.rel M w cs t) (hs:t.Sm) (hq:∀y∈t.outs,y.s.size≤1000000):K.Spec Tryz.prog F.dust_First [.agg cs.toArray] w fun r w'=>r=.tuple #[.int .i64 (max (fL t) 0),.bool (decide (fL t≥0))]∧Ext w w':=by
 obtain ⟨iv,ov,rfl,hi,ho,hv,hl⟩:=ht
 have g:=hs.outs
 have tl:∀w1,Ext w w1→rF F.dust_Dust [] eX (fun cs=>.agg cs.toArray) M w1 t.outs aFa:=fun w1 x1 y hy w' cs x2 hc=>by
  obtain ⟨rfl,_⟩:=hc
  exact bEk y (hq y hy) w'
 refine aT7 rfl ?_
 unfold aJm
 refine oy ?_
 repeat' (first|refine zD rfl rfl (fun bp wp xp ap (rp:Row wp ⟨bp,0,none⟩ (aK t iv ov)) hp0=>?_)|(refine zC (d:=some 7) rfl (aLw (l:=t.outs) (M:=M) (g:=F.dust_Dust) (capl:= []) _ bJ6 (SlR.ext ho (by exact fx)) (by omega) (tl _ (by exact fx))) ?_;rintro _ w2 ⟨rfl,x2⟩)|refine rH (d:=some 9) (a:=fL t) (b:=0) rfl rfl ?_|refine go1 ?_|refine zg λ_ _=>?_|refine zi λ_ _=>?_)
 exact aC rfl ⟨rfl,by exact fx⟩
theorem bFr (a b:Int) (ha:bX a=true) (hb:bX b=true) (h:b≤a) (w:World):K.Spec Tryz.prog F.amount_Sub [.int .i64 a,.int .i64 b] w fun r w'=>r=.tuple #[.int .i64 (a - b),.int .i64 0]∧Ext w w':=by
 have h1:=(bG a).1 ha
 have h2:=(bG b).1 hb
 refine aUs rfl ?_
 unfold aHx
 refine oy ?_
 repeat' (first|refine zF (d:=some 7) (v:=.bool true) ((qG _).trans (by rw [ha])) ?_|refine zF (d:=some 11) (v:=.bool true) ((qG _).trans (by rw [hb])) ?_|refine zL (p:=b>a) rfl (fun h=>absurd h (by omega)) (fun _=>?_)|refine go1 ?_|refine zg λ_ _=>?_|refine zi λ_ _=>?_)
 exact aC rfl ⟨rfl,Ext.refl _⟩
end
section
open Go Go.K
attribute [local irreducible] aO aU bQ KOp.wp K.Spec u32 leS vnS str aV cB bS
theorem kF {s:ByteArray} {i:Nat} (h:i<s.size):bS s i=s[i].toNat:=by
 unfold bS
 rw [List.getD_eq_getElem?_getD,List.getElem?_eq_getElem (by simpa using h)]
 rfl
theorem bP2 {n:Nat} (h:n<256^7):cC .shl (.int .u64 (n:Nat)) (.int .u64 8)=some (.int .u64 ((n*256:Nat):Int)):=by
 simp only [cC,dX,if_true]
 rw [if_neg (by decide)]
 show some (Value.int .u64 (IntKind.u64.wrap ((n:Int)*256)))=_
 rw [fF (by omega) (by omega)];rfl
theorem or8 {n b:Nat} (h:n<256^7) (hb:b<256):cC .or (.int .u64 ((n*256:Nat):Int)) (.int .u64 (b:Nat))=some (.int .u64 ((b+256*n:Nat):Int)):=by
 simp only [cC,dX,Bool.false_eq_true,if_false,if_true,dL,IntKind.bits]
 have e:(BitVec.ofInt 64 ((n*256:Nat):Int)|||BitVec.ofInt 64 (b:Nat)).toNat=b+256*n:=by
  rw [BitVec.toNat_or,BitVec.toNat_ofInt,BitVec.toNat_ofInt]
  rw [show (((n*256:Nat):Int)%((2^64:Nat):Int)).toNat=n<<<8 by rw [Nat.shiftLeft_eq];omega,show (((b:Nat):Int)%((2^64:Nat):Int)).toNat=b by omega]
  rw [←Nat.shiftLeft_add_eq_or_of_lt (by omega:b<2^8),Nat.shiftLeft_eq];omega
 exact (congrArg (fun x:Nat=>some (Value.int .u64 (IntKind.u64.wrap (x:Int)))) e).trans (congrArg (fun x=>some (Value.int .u64 x)) (fF (by omega) (by omega)))
set_option maxHeartbeats 400000 in
theorem bEg (s:ByteArray) (a k:Nat) (hk:k=1∨k=2∨k=4∨k=8) (hs:a+k≤s.size) (hm:s.size≤100000000) (w:World):K.Spec Tryz.prog F.octet_Get [.string s,.int .i64 (a:Nat),.int .i64 (k:Nat)] w fun r w'=>r=.tuple #[.int .u64 (cB s a k:Nat),.bool true]∧Ext w w':=by
 have hk8:k≤8:=by omega
 refine aX5 rfl ?_
 unfold aMq
 refine oy ?_
 repeat' (first|refine go1 ?_|refine zg λ_ _=>?_|refine zi λ_ _=>?_|(refine zC (d:=some 11) rfl (aP6 k hk _) ?_;rintro _ w1 ⟨rfl,x1⟩)|refine zJ (p:=(a:Int)<0) rfl (fun h=>absurd h (by omega)) (fun _=>?_)|refine zL (p:=(a:Int)>(s.size:Int) - (k:Int)) rfl (fun h=>absurd h (by omega)) (fun _=>?_)|(refine aQ (fun (j:Nat) w'=>Ext w w'∧j≤k) (fun j=> [(0,.string s),(1,.int .i64 (a:Nat)),(8,.int .u64 (cB s (a+k - j) j:Nat)),(9,.int .i64 ((a:Int)+(k:Int) - 1 - (j:Int)))]) (fun j=>k - j) 0 ⟨rfl,rfl,(by unfold cB;rfl),congrArg (Value.int .i64) (by omega),trivial⟩ ⟨x1,by omega⟩ ?_;rintro j ρ w3 ⟨x3,hj⟩))
 refine zL (p:=(a:Int)+(k:Int) - 1 - (j:Int)≥(a:Int)) rfl (fun h=>?_) (fun h=>?_)
 ·have hjk:j<k:=by omega
  have hlt:=gW s j (a+k - j)
  have hp:256^j≤256^7:=Nat.pow_le_pow_right (by decide) (by omega)
  have hn7:cB s (a+k - j) j<256^7:=nLt hlt hp
  have hi:a+k - 1 - j<s.size:=by omega
  have hb:=s[a+k - 1 - j].toNat_lt
  have e:cB s (a+k - (j+1)) (j+1)=s[a+k - 1 - j].toNat+256*cB s (a+k - j) j:=by
   conv=>lhs;unfold cB
   rw [show a+k - (j+1)=a+k - 1 - j by omega,kF hi,show a+k - 1 - j+1=a+k - j by omega]
  generalize hN:cB s (a+k - j) j=n at hn7 e hlt ⊢
  generalize hB:s[a+k - 1 - j].toNat=b at hb e
  have f35:=bP2 hn7
  have f40:=or8 hn7 hb
  repeat (first|refine aJ (d:=some 35) (.int .u64 ((n*256:Nat):Int)) rfl f35 ?_|(refine iY (d:=some 38) (k:=.i64) (n:=a+k - 1 - j) rfl (congrArg (Value.int .i64) (by omega)) hi ?_;rw [hB])|refine aJ (d:=some 39) (.int .u64 (b:Nat)) rfl (congrArg (fun n=>some (Value.int .u64 n)) (fF (by omega) (by omega))) ?_|refine aJ (d:=some 40) (.int .u64 ((b+256*n:Nat):Int)) rfl f40 ?_|refine go1 ?_|refine zg λ_ _=>?_|refine zi λ_ _=>?_)
  exact ⟨j+1,⟨rfl,rfl,congrArg (fun n:Nat=>Value.int .u64 n) e.symm,congrArg (Value.int .i64) (by omega),trivial⟩,⟨x3,by omega⟩,by omega⟩
 ·have e:j=k:=by omega
  subst e
  repeat (first|refine go1 ?_|refine zg λ_ _=>?_|refine zi λ_ _=>?_)
  exact aC rfl ⟨congrArg (fun n:Nat=>Value.tuple #[.int .u64 (n:Int),.bool true]) (congrArg (fun z=>cB s z j) (show a+j - j=a by omega)),x3⟩
theorem vK (s:ByteArray) (a k:Nat) (hk:k=1∨k=2∨k=4∨k=8) (hs:a+k≤s.size) (hm:s.size≤100000000) (w:World):K.Spec Tryz.prog F.lock_number [.string s,.int .i64 (a:Nat),.int .i64 (k:Nat)] w fun r w'=>r=.int .u64 (cB s a k:Nat)∧Ext w w':=by
 refine aQ8 rfl ?_
 unfold aFc
 refine oy ?_
 repeat' (first|refine go1 ?_|refine zg λ_ _=>?_|refine zi λ_ _=>?_|(refine zC (d:=some 13) rfl (bEg s a k hk hs hm _) ?_;rintro _ w1 ⟨rfl,x1⟩))
 exact aC rfl ⟨rfl,x1⟩
end
section
open Go Go.K
attribute [local irreducible] aO aU bQ KOp.wp K.Spec u32 leS vnS str aV cB bS
theorem bEz (n:Nat) (hn:n<18446744073709551616) (w:World):K.Spec Tryz.prog F.octet_Put [.int .u64 (n:Nat),.int .i64 1] w fun r w'=>r=.string (leS n 1)∧Ext w w':=aDm n 1 (by decide) hn w
theorem aR4 (n:Nat) (hn:n<18446744073709551616) (w:World):K.Spec Tryz.prog F.octet_Put [.int .u64 (n:Nat),.int .i64 2] w fun r w'=>r=.string (leS n 2)∧Ext w w':=aDm n 2 (by decide) hn w
theorem bEr (n:Nat) (hn:n<18446744073709551616) (w:World):K.Spec Tryz.prog F.octet_Put [.int .u64 (n:Nat),.int .i64 4] w fun r w'=>r=.string (leS n 4)∧Ext w w':=aDm n 4 (by decide) hn w
def aH2 (l:List Br):Int:=if l.length<1∨3<l.length then 6 else if l.all aV3 then 0 else 3
set_option maxHeartbeats 1000000 in
theorem bE3 {v : Value} {l : List Br} (w : World) (hv : SlE brE w v l) (ho : ∀ b ∈ l, BrOk b) : K.Spec Tryz.prog F.lock_Put [v] w fun r w' => ∃ s, r = .tuple #[.string s, .int .i64 (aH2 l)] ∧ Ext w w' := by
  refine bBs rfl ?_
  unfold aPe
  refine oy ?_
  repeat' (first|refine bY (E := brE) (l := l) rfl (SlE.ext (w := w) (by exact fx) hv) ?_|refine zJ (p := ((l.length : Nat) : Int) < 1) rfl (fun h => ?_) (fun h => ?_)|refine zL (p := ((l.length : Nat) : Int) > 3) rfl (fun h => ?_) (fun h => ?_)|(refine zH (d := some 4) (fun b w0 x0 a0 hb0 => ?_); have hW : uL b b ⟨#[]⟩ w0 := (Bld.new (Nat.le_refl _) a0))|refine aJ (d := some 17) (.int .u64 (l.length : Nat)) rfl (congrArg (fun n => some (Value.int .u64 n)) (fF (by omega) (by omega))) ?_|(refine zC (d := some 18) rfl (bEz l.length (by omega) _) ?_; rintro _ w1 ⟨rfl, x1⟩)|(refine zC (d := some 19) rfl (fO (leS l.length 1) _ (by exact fx) (by decide) (by rw [cR]; decide)) ?_; rintro _ w2 ⟨hW2, rW, hS⟩; have xW := rW.ext (w0 := w) (by exact fx) hb0; replace hS : ((⟨#[]⟩ : ByteArray) ++ leS l.length 1).size ≤ 2000000 := (nTr hS (by decide)); clear hW x0 x1)|(refine aQ (fun (p : Nat × ByteArray) w' => Ext w w' ∧ p.1 ≤ l.length ∧ uL b b p.2 w' ∧ p.2.size ≤ 2000000 + 1000000 * p.1 ∧ (l.take p.1).all aV3 = true) (fun p => [(4, .pointer (some ⟨b, 0, none⟩)), (20, v), (21, .int .i64 (l.length : Nat)), (22, .int .i64 p.1)]) (fun p => l.length - p.1) (0, _) ⟨rfl, rfl, rfl, rfl, trivial⟩ ⟨by exact fx, by simp, by exact fx, by simpa using hS, by simp⟩ ?_; rintro ⟨i, s⟩ ρ w3 ⟨x3, hi, hW3, hS3, ha⟩; simp only at hi hW3 hS3 ha; dsimp only)|refine zL (p := ((i : Nat) : Int) < ((l.length : Nat) : Int)) rfl (fun h => ?_) (fun h => ?_)|refine go1 ?_|refine zg λ_ _=>?_|refine zi λ_ _=>?_)
  · exact aC rfl ⟨_, by rw [aH2, if_pos (by omega)]; rfl, by exact fx⟩
  · exact aC rfl ⟨_, by rw [aH2, if_pos (by omega)]; rfl, by exact fx⟩
  · have hil : i < l.length := by omega
    have hok := ho _ (gMe hil)
    have h1 := hok.tag
    have h2 := hok.delay
    have h3 := hok.height
    refine aT (d := some 24) (E := brE) rfl rfl (n := i) (l := l) (hv.ext x3) rfl hil (fun ad r4 => ?_)
    have r4 : Row w3 ad [.int .u16 (l[i].tag : Nat), .int .u16 (l[i].delay : Nat), .int .u32 (l[i].height : Nat)] := r4
    have hb3 : w.heap.size ≤ b := hb0
    repeat' (first|(refine zE (d' := 6) (fun _=>rfl) rfl rfl rfl (fun b6 w6 x6 a6 (r6 : Row w6 ⟨b6, 0, none⟩ [.int .u16 (l[i].tag : Nat), .int .u16 (l[i].delay : Nat), .int .u32 (l[i].height : Nat)]) hb6=>?_); have hne : b6 ≠ b := (by have := hW3.lt; omega))|refine go1 ?_|refine zg λ_ _=>?_|refine zi λ_ _=>?_)
    refine zL (p := ((l[i].height : Nat) : Int) > 1000000) rfl (fun h => ?_) (fun h => ?_)
    · repeat (first|refine go1 ?_|refine zg λ_ _=>?_|refine zi λ_ _=>?_)
      refine aC rfl ⟨⟨#[]⟩, ?_, Ext.trans x3 x6⟩
      have e : aH2 l = 3 := by
       rw [aH2, if_neg (by omega), if_neg]
       rw [List.all_eq_true]
       intro hall
       have := hall _ (gMe hil)
       unfold aV3 at this
       have := of_decide_eq_true this
       omega
      rw [e]; rfl
    · have hlow : (l.take (i + 1)).all aV3 = true := by
        rw [List.take_succ_eq_append_getElem hil, List.all_append, ha]
        simp only [List.all_cons, List.all_nil, Bool.and_true, Bool.true_and]
        exact dTr (by omega)
      have hW6 : uL b b s w6 := hW3.ext x6
      have x06 : Ext w w6 := x3.trans x6
      clear hW3 hW2 x6 x3 r4 xW rW
      repeat' (first|refine zg (fun w7 x7 => ?_)|refine zA ?_|refine fR ?_ ?_|refine aJ (d := some 31) (.int .u64 (l[i].tag : Nat)) rfl (congrArg (fun n => some (Value.int .u64 n)) (fF (by omega) (by omega))) ?_|refine aJ (d := some 35) (.int .u64 (l[i].delay : Nat)) rfl (congrArg (fun n => some (Value.int .u64 n)) (fF (by omega) (by omega))) ?_|refine aJ (d := some 40) (.int .u64 (l[i].height : Nat)) rfl (congrArg (fun n => some (Value.int .u64 n)) (fF (by omega) (by omega))) ?_|(refine zC (d := some 32) rfl (aR4 l[i].tag (by omega) _) ?_; rintro _ w8 ⟨rfl, x8⟩)|(refine zC (d := some 36) rfl (aR4 l[i].delay (by omega) _) ?_; rintro _ w9 ⟨rfl, x9⟩)|(refine zC (d := some 41) rfl (bEr l[i].height (by omega) _) ?_; rintro _ w10 ⟨rfl, x10⟩)|refine lZ (d := some 37) rfl rfl (by rw [cR, cR]; decide) ?_|refine lZ (d := some 42) rfl rfl (by rw [ByteArray.size_append, cR, cR, cR]; decide) ?_|(refine zC (d := some 43) rfl (fO (leS l[i].tag 2 ++ leS l[i].delay 2 ++ leS l[i].height 4) _ (by exact fx) (by omega) (by rw [ByteArray.size_append, ByteArray.size_append, cR, cR, cR]; decide)) ?_; rintro _ w11 ⟨hW11, rW11, hS11⟩; have xW11 := rW11.ext (w0 := w) (by exact fx) hb3)|refine go1 ?_|refine zg λ_ _=>?_|refine zi λ_ _=>?_)
      all_goals exact ⟨(i + 1, _), ⟨rfl, rfl, rfl, rfl, trivial⟩, ⟨xW11, hil, hW11, nTr hS11 (by omega), hlow⟩, by show l.length - (i + 1) < l.length - i; omega⟩
  · have ei : i = l.length := by omega
    subst ei
    rw [List.take_length] at ha
    repeat' (first|refine go1 ?_|refine zg λ_ _=>?_|refine zi λ_ _=>?_|(refine zC (d := some 45) rfl (aKd _ (by exact fx)) ?_; rintro _ w9 ⟨rfl, hW9, rW9⟩; have xW9 := rW9.ext (w0 := w) (by exact fx) hb0))
    exact aC rfl ⟨_, by rw [aH2, if_neg (by omega), if_pos ha]; rfl, by exact fx⟩
end
section
open Go Go.K
attribute [local irreducible] aO aU bQ KOp.wp K.Spec u32 leS vnS str aV cB bS
theorem aPf {s:ByteArray} (h:¬(s.size=1+8*bS s 0∧bS s 0≤3)):cS s= []:=by
 unfold cS
 rw [if_neg]
 intro h2
 apply h
 simp only [jF,Bool.and_eq_true,Bool.or_eq_true,decide_eq_true_eq] at h2
 obtain ⟨⟨h3,h4⟩,_⟩:=h2
 have h4:bS s 0=(s.size - 1) / 8:=h4
 omega
theorem bIp {s:ByteArray} (h:s.size=1+8*bS s 0) (h3:bS s 0≤3):yK s=bS s 0∧cS s=if aH2 (kT s)=0 then kT s else []:=by
 have hn:yK s=bS s 0:=by unfold yK;omega
 refine ⟨hn,?_⟩
 have hl:(kT s).length=bS s 0:=by simp [kT,hn]
 unfold cS aH2
 by_cases h0:bS s 0=0
 ·have e:jF s=false:=by
   cases hf:jF s with
   |false=>rfl
   |true=>
    simp only [jF,Bool.and_eq_true,Bool.or_eq_true,decide_eq_true_eq] at hf
    omega
  rw [e,if_pos (by omega:(kT s).length<1∨3<(kT s).length)];rfl
 ·have hf:jF s=true:=by
   simp only [jF,Bool.and_eq_true,Bool.or_eq_true,decide_eq_true_eq]
   omega
  rw [hf,Bool.true_and,if_neg (by omega:¬((kT s).length<1∨3<(kT s).length))]
  cases hb:(kT s).all aV3<;>rfl
theorem aXv {s:ByteArray} {i:Nat}:(List.range (i+1)).map (aC8 s)=(List.range i).map (aC8 s)++ [aC8 s i]:=by rw [List.range_succ,List.map_append];rfl
theorem aDc {n:Nat} (h:n<65536):IntKind.u16.wrap (n:Int)=(n:Int):=by show (n:Int)%65536=n;omega
theorem aPl {n:Nat} (h:n<4294967296):IntKind.u32.wrap (n:Int)=(n:Int):=by show (n:Int)%4294967296=n;omega
theorem bF4 {P:Program} {d:Option Tmp} {r:KR} {K:Env→World→Prop} {ρ:Env} {w:World} {α:Type} {E:Enc α} {size:Nat} {x i:Operand} {v:Value} {l:List α} {kd:IntKind} {n:Nat} (hx:ev ρ x=v) (hi:ev ρ i=.int kd (n:Nat)) (hs:SlE E w v l) (hk:size=E.k) (hr:n<l.length) (k:∀ad,Row w ad (E.f l[n])→ad.block∈aP v→aO P r K (put ρ d (.pointer (some ad))) w):aO P (.cons ⟨d,.indexAddr size x i,none⟩ r) K ρ w:=by
 subst hk
 obtain ⟨a,cap,hv,hrow⟩:=Sl.at_ hs E.pos hr
 subst hv
 exact dK rfl (by simp [KOp.fix,hx,hi,hr]) (k (a.add (n*E.k)) (by rw [E.flat_at l n hr] at hrow;exact hrow) (by simp [aP,add_block]))
set_option maxHeartbeats 1000000 in
theorem bEy (s:ByteArray) (hm:s.size≤1000000) (w:World):K.Spec Tryz.prog F.lock_Get [.string s] w fun r w'=>∃v e,r=.tuple #[v,.int .i64 e]∧SlE brE w' v (cS s)∧(e≠0→cS s= [])∧(∀b∈aP v,w.heap.size≤b)∧Ext w w':=by
 refine bCe rfl ?_
 unfold aQb
 refine oy ?_
 by_cases h0:s=⟨#[]⟩
 ·have hb:cS s= []:=aPf (by subst h0;have:(⟨#[]⟩:ByteArray).size=0:=rfl;omega)
  rw [hb]
  repeat' (first|refine aJ (d:=some 9) (.bool true) rfl (congrArg (fun b=>some (Value.bool b)) (dTr h0)) ?_|refine go1 ?_|refine zg λ_ _=>?_|refine zi λ_ _=>?_)
  exact aC rfl ⟨.slice none 0 0,_,rfl,SlE.nil _,fun _=>rfl,(fun b hb=>absurd hb (by simp [aP])),Ext.refl _⟩
 have hsz:0<s.size:=by
  rcases Nat.eq_zero_or_pos s.size with h|h
  ·exact absurd (ByteArray.ext (Array.eq_empty_of_size_eq_zero (by simpa using h))) h0
  ·exact h
 have hb0:=kF hsz
 have hb8:=s[0].toNat_lt
 obtain ⟨n,hn⟩:∃n:Nat,n=s[0].toNat:=⟨_,rfl⟩
 rw [←hn] at hb0 hb8
 have pre:s.size=1+8*bS s 0∧bS s 0≤3∨¬(s.size=1+8*bS s 0∧bS s 0≤3):=by omega
 repeat' (first|refine aJ (d:=some 9) (.bool false) rfl (congrArg (fun b=>some (Value.bool b)) (dFa h0)) ?_|(refine iY (d:=some 12) (k:=.i64) (n:=0) rfl rfl hsz ?_;rw [←hn])|refine aJ (d:=some 13) (.int .i64 (n:Nat)) rfl (congrArg (fun n=>some (Value.int .i64 n)) (uV (by omega))) ?_|refine zJ (p:=((n:Nat):Int)>3) rfl (fun h=>?_) (fun h=>?_)|(refine iY (d:=some 20) (k:=.i64) (n:=0) rfl rfl hsz ?_;rw [←hn])|refine aJ (d:=some 21) (.int .i64 (n:Nat)) rfl (congrArg (fun n=>some (Value.int .i64 n)) (uV (by omega))) ?_|refine rI (d:=some 22) (a:=8) (b:=(n:Nat)) rfl rfl (by omega) ?_|refine zN (p:=((s.size:Nat):Int)=1+8*((n:Nat):Int)) rfl (fun h=>?_) (fun h=>?_)|(refine aQ (fun (p:Nat × Value) w'=>Ext w w'∧p.1≤n∧Own brE T.api_Branch w.heap.size w' p.2 ((List.range p.1).map (aC8 s))) (fun p=> [(0,.string s),(4,p.2),(5,.int .i64 (1+8*(p.1:Int)))]) (fun p=>n - p.1) (0,.slice none 0 0) ⟨rfl,rfl,rfl,trivial⟩ ⟨Ext.refl _,by simp,Own.nil _ _ _⟩ ?_;rintro ⟨i,v4⟩ ρ w3 ⟨x3,hi,ho⟩;simp only at hi ho;dsimp only)|refine zL (p:=1+8*((i:Nat):Int)<((s.size:Nat):Int)) rfl (fun h=>?_) (fun h=>?_)|refine go1 ?_|refine zg λ_ _=>?_|refine zi λ_ _=>?_)
 ·rw [aPf (by omega)]
  exact aC rfl ⟨.slice none 0 0,_,rfl,SlE.nil _,fun _=>rfl,(fun b hb=>absurd hb (by simp [aP])),Ext.refl _⟩
 ·rw [aPf (by omega)]
  exact aC rfl ⟨.slice none 0 0,_,rfl,SlE.nil _,fun _=>rfl,(fun b hb=>absurd hb (by simp [aP])),Ext.refl _⟩
 ·have hin:i<n:=by omega
  have q1:=gW s 2 (1+8*i)
  have q2:=gW s 2 (3+8*i)
  have q3:=gW s 4 (5+8*i)
  repeat' (first|(refine zC (d:=some 35) (congrArg (fun z=> [Value.string s,Value.int .i64 z,Value.int .i64 2]) (by omega)) (vK s (1+8*i) 2 (by decide) (by omega) (by omega) _) ?_;rintro _ w4 ⟨rfl,x4⟩)|refine aJ (d:=some 36) (.int .u16 (cB s (1+8*i) 2:Nat)) rfl (congrArg (fun n=>some (Value.int .u16 n)) (aDc q1)) ?_|(refine zC (d:=some 40) (congrArg (fun z=> [Value.string s,Value.int .i64 z,Value.int .i64 2]) (by omega)) (vK s (3+8*i) 2 (by decide) (by omega) (by omega) _) ?_;rintro _ w5 ⟨rfl,x5⟩)|refine aJ (d:=some 41) (.int .u16 (cB s (3+8*i) 2:Nat)) rfl (congrArg (fun n=>some (Value.int .u16 n)) (aDc q2)) ?_|(refine zC (d:=some 45) (congrArg (fun z=> [Value.string s,Value.int .i64 z,Value.int .i64 4]) (by omega)) (vK s (5+8*i) 4 (by decide) (by omega) (by omega) _) ?_;rintro _ w6 ⟨rfl,x6⟩)|refine aJ (d:=some 46) (.int .u32 (cB s (5+8*i) 4:Nat)) rfl (congrArg (fun n=>some (Value.int .u32 n)) (aPl q3)) ?_|refine bL (d:=some 47) (cs:=brE.f (aC8 s i)) rfl ?_|refine zI (d:=some 48) (cs:=brE.f (aC8 s i)) rfl (fun b9 w9 x9 a9 hb9=>?_)|refine cK (d:=some 49) (E:=brE) (v:=v4) (l2:= [aC8 s i]) rfl (ho.ext (by exact fx)) (Ext.size (w:=w) (by exact fx)) rfl rfl (eS a9 rfl) rfl rfl (by simp;omega) (fun v10 w10 o10 c10=>?_)|refine go1 ?_|refine zg λ_ _=>?_|refine zi λ_ _=>?_)
  exact ⟨(i+1,v10),⟨rfl,rfl,congrArg (Value.int .i64) (by simp only;omega),trivial⟩,⟨(Ext.chg (w:=w) (by exact fx) c10).mono (fun b hb=>.inr (ho.base b hb)),by simp only;omega,by simp only;rw [aXv];exact o10⟩,by simp only;omega⟩
 ·have ei:i=n:=by omega
  subst ei
  have hp:=bIp (s:=s) (by omega) (by omega)
  have hl:(List.range i).map (aC8 s)=kT s:=by unfold kT;rw [hp.1,hb0]
  rw [hl] at ho
  have hok:∀b∈kT s,BrOk b:=fun b hb=>by
   unfold kT at hb
   obtain ⟨j,_,rfl⟩:=List.mem_map.1 hb
   exact bCg s j
  rw [hp.2]
  repeat' (first|(refine zC (d:=some 52) rfl (bE3 _ (SlE.ext (w:=w3) (by exact fx) ho.sl) hok) ?_;rintro _ w4 ⟨z,rfl,x4⟩)|refine zN (p:=aH2 (kT s)=0) rfl (fun h=>?_) (fun h=>?_)|refine go1 ?_|refine zg λ_ _=>?_|refine zi λ_ _=>?_)
  ·rw [if_neg h]
   exact aC rfl ⟨.slice none 0 0,_,rfl,SlE.nil _,fun _=>rfl,(fun b hb=>absurd hb (by simp [aP])),by exact fx⟩
  ·rw [if_pos h]
   exact aC rfl ⟨_,_,rfl,SlE.ext x4 ho.sl,fun he=>absurd rfl he,ho.base,by exact fx⟩
def yU (l:List ByteArray):Value:=match gG l with
 |some (a,t)=>.tuple #[.int .i64 (a:Nat),.int .u16 (t:Nat),.int .i64 0]
 |none=>.tuple #[.int .i64 0,.int .u16 0,.int .i64 4]
theorem aV0 {v:Value} {l:List ByteArray} (w:World) (hv:SlE bO w v l) (hz:∀z∈l,z.size≤1000000):K.Spec Tryz.prog F.lock_Signed [v] w fun r w'=>r=yU l∧Ext w w':=by
 refine aRj rfl ?_
 unfold aFj
 refine oy ?_
 by_cases h1:l.length=1
 ·obtain ⟨z,rfl⟩:∃z,l= [z]:=by
   match l,h1 with
   | [z],_=>exact ⟨z,rfl⟩
  have hzm:=hz z (by simp)
  by_cases h3:z.size=3
  ·have hb0:=kF (s:=z) (i:=0) (by omega)
   have hb8:=z[0].toNat_lt
   obtain ⟨n,hn⟩:∃n:Nat,n=z[0].toNat:=⟨_,rfl⟩
   rw [←hn] at hb0 hb8
   have q1:=gW z 2 1
   by_cases h4:n<3
   ·have e:yU [z]=.tuple #[.int .i64 (n:Nat),.int .u16 (cB z 1 2:Nat),.int .i64 0]:=by
     unfold yU gG
     rw [if_pos ⟨rfl,h3,by show bS z 0<3;omega⟩]
     show Value.tuple #[.int .i64 (bS z 0:Nat),_,_]=_
     rw [hb0];rfl
    rw [e]
    repeat' (first|refine bY (d:=some 6) (E:=bO) (l:= [z]) rfl (SlE.ext (w:=w) (by exact fx) hv) ?_|refine aJ (d:=some 7) (.bool false) rfl rfl ?_|(refine aT (d:=some 10) (E:=bO) rfl rfl (n:=0) (l:= [z]) (SlE.ext (w:=w) (by exact fx) hv) rfl (by simp) (fun ad r4=>?_);have r4:Row _ ad [Value.string z]:=r4)|(refine aJ (d:=some 13) (.bool false) rfl (by show some (Value.bool (!decide (((z.size:Nat):Int)=3)))=_;rw [dTr (by omega)];rfl) ?_)|(refine aT (d:=some 17) (E:=bO) rfl rfl (n:=0) (l:= [z]) (SlE.ext (w:=w) (by exact fx) hv) rfl (by simp) (fun ad r5=>?_);have r5:Row _ ad [Value.string z]:=r5)|(refine iY (d:=some 19) (k:=.i64) (n:=0) rfl rfl (by omega) ?_;rw [←hn])|refine aJ (d:=some 20) (.bool false) rfl (congrArg (fun b=>some (Value.bool b)) (dFa (by omega))) ?_|refine zg (fun w7 x7=>?_)|refine fR ?_ ?_|(refine aT (d:=some 23) (E:=bO) rfl rfl (n:=0) (l:= [z]) (SlE.ext (w:=w) (by exact fx) hv) rfl (by simp) (fun ad r6=>?_);have r6:Row _ ad [Value.string z]:=r6)|(refine aT (d:=some 28) (E:=bO) rfl rfl (n:=0) (l:= [z]) (SlE.ext (w:=w) (by exact fx) hv) rfl (by simp) (fun ad r7=>?_);have r7:Row _ ad [Value.string z]:=r7)|(refine iY (d:=some 25) (k:=.i64) (n:=0) rfl rfl (by omega) ?_;rw [←hn])|refine aJ (d:=some 26) (.int .i64 (n:Nat)) rfl (congrArg (fun n=>some (Value.int .i64 n)) (uV (by omega))) ?_|(refine zC (d:=some 30) rfl (vK z 1 2 (by decide) (by omega) (by omega) _) ?_;rintro _ w8 ⟨rfl,x8⟩)|refine aJ (d:=some 31) (.int .u16 (cB z 1 2:Nat)) rfl (congrArg (fun n=>some (Value.int .u16 n)) (aDc q1)) ?_|refine go1 ?_|refine zg λ_ _=>?_|refine zi λ_ _=>?_)
    all_goals exact aC rfl ⟨rfl,by exact fx⟩
   ·have e:yU [z]=.tuple #[.int .i64 0,.int .u16 0,.int .i64 4]:=by
     unfold yU gG
     rw [if_neg]
     rintro ⟨_,_,h⟩
     have h:bS z 0<3:=h
     omega
    rw [e]
    repeat' (first|refine bY (d:=some 6) (E:=bO) (l:= [z]) rfl (SlE.ext (w:=w) (by exact fx) hv) ?_|refine aJ (d:=some 7) (.bool false) rfl rfl ?_|(refine aT (d:=some 10) (E:=bO) rfl rfl (n:=0) (l:= [z]) (SlE.ext (w:=w) (by exact fx) hv) rfl (by simp) (fun ad r4=>?_);have r4:Row _ ad [Value.string z]:=r4)|(refine aJ (d:=some 13) (.bool false) rfl (by show some (Value.bool (!decide (((z.size:Nat):Int)=3)))=_;rw [dTr (by omega)];rfl) ?_)|(refine aT (d:=some 17) (E:=bO) rfl rfl (n:=0) (l:= [z]) (SlE.ext (w:=w) (by exact fx) hv) rfl (by simp) (fun ad r5=>?_);have r5:Row _ ad [Value.string z]:=r5)|(refine iY (d:=some 19) (k:=.i64) (n:=0) rfl rfl (by omega) ?_;rw [←hn])|refine aJ (d:=some 20) (.bool true) rfl (congrArg (fun b=>some (Value.bool b)) (dTr (by omega))) ?_|refine go1 ?_|refine zg λ_ _=>?_|refine zi λ_ _=>?_)
    exact aC rfl ⟨rfl,by exact fx⟩
  ·have e:yU [z]=.tuple #[.int .i64 0,.int .u16 0,.int .i64 4]:=by
    unfold yU gG
    rw [if_neg]
    rintro ⟨_,h,_⟩
    exact h3 h
   rw [e]
   repeat' (first|refine bY (d:=some 6) (E:=bO) (l:= [z]) rfl (SlE.ext (w:=w) (by exact fx) hv) ?_|refine aJ (d:=some 7) (.bool false) rfl rfl ?_|(refine aT (d:=some 10) (E:=bO) rfl rfl (n:=0) (l:= [z]) (SlE.ext (w:=w) (by exact fx) hv) rfl (by simp) (fun ad r4=>?_);have r4:Row _ ad [Value.string z]:=r4)|(refine aJ (d:=some 13) (.bool true) rfl (by show some (Value.bool (!decide (((z.size:Nat):Int)=3)))=_;rw [dFa (by omega)];rfl) ?_)|refine go1 ?_|refine zg λ_ _=>?_|refine zi λ_ _=>?_)
   exact aC rfl ⟨rfl,by exact fx⟩
 ·have e:yU l=.tuple #[.int .i64 0,.int .u16 0,.int .i64 4]:=by
   unfold yU gG
   rw [if_neg]
   rintro ⟨h,_⟩
   exact h1 h
  rw [e]
  repeat' (first|refine bY (d:=some 6) (E:=bO) (l:=l) rfl (SlE.ext (w:=w) (by exact fx) hv) ?_|(refine aJ (d:=some 7) (.bool true) rfl (by show some (Value.bool (!decide (((l.length:Nat):Int)=1)))=_;rw [dFa (by omega)];rfl) ?_)|refine go1 ?_|refine zg λ_ _=>?_|refine zi λ_ _=>?_)
  exact aC rfl ⟨rfl,by exact fx⟩
end
section
open Go Go.K
attribute [local irreducible] aO aU bQ KOp.wp K.Spec u32 leS vnS str aV cB bS cS gG kT
theorem aX9 {s:ByteArray} {b:Br} (h:b∈cS s):BrOk b:=by
 unfold cS at h
 split at h
 ·unfold kT at h
  obtain ⟨j,_,rfl⟩:=List.mem_map.1 h
  exact bCg s j
 ·simp at h
set_option maxHeartbeats 1000000 in
theorem aYm {v:Value} {l:List ByteArray} (s:ByteArray) (hm:s.size≤1000000) (w:World) (hv:SlE bO w v l) (hz:∀z∈l,z.size≤1000000):K.Spec Tryz.prog F.lock_chosen [.string s,v] w fun r w'=>
  ∃b,r=.tuple #[.agg (brE.f b).toArray,.bool (cW s l).isSome]∧BrOk b∧(∀c,cW s l=some c→b=c)∧Ext w w':=by
 have hz0:BrOk ⟨0,0,0⟩:=⟨by decide,by decide,by decide⟩
 refine aRh rfl ?_
 unfold aE6
 refine oy ?_
 repeat' (first|refine zH (d:=some 4) (fun b4 w4 x4 a4 hb4=>?_)|(refine zC (d:=some 13) rfl (bEy s hm _) ?_;rintro _ w5 ⟨u,e,rfl,hl,he,hbu,x5⟩;have l4:=a4.lt)|(refine zC (d:=some 18) rfl (aV0 _ (SlE.ext (w:=w) (by exact fx) hv) hz) ?_;rintro _ w6 ⟨rfl,x6⟩;have x06:Ext w w6:=(by exact fx);replace hl:=hl.ext x6;have a6:At w6 b4 _:=a4.ext (x5.trans x6);clear x4 x5 x6 a4)|refine go1 ?_|refine zg λ_ _=>?_|refine zi λ_ _=>?_)
 cases hsg:gG l with
 |none=>
  have e1:yU l=.tuple #[.int .i64 0,.int .u16 0,.int .i64 4]:=by unfold yU;rw [hsg]
  have e2:cW s l=none:=by unfold cW;rw [hsg];rfl
  rw [e1,e2]
  by_cases h0:e=0
  all_goals
   repeat' (first|refine aJ (d:=some 23) (.bool false) rfl (by show some (Value.bool (!decide (e=0)))=_;rw [dTr h0];rfl) ?_|refine aJ (d:=some 23) (.bool true) rfl (by show some (Value.bool (!decide (e=0)))=_;rw [dFa h0];rfl) ?_|refine bL (d:=some 34) (cs:=brE.f ⟨0,0,0⟩) rfl ?_|refine bP (w0:=w) (vs:=brE.f ⟨0,0,0⟩) (by exact fx) hb4 (by focus (repeat (first|assumption|(apply At.ext;assumption)))) rfl rfl rfl rfl rfl (fun w9 x9 c9 a9 r9=>?_)|refine go1 ?_|refine zg λ_ _=>?_|refine zi λ_ _=>?_)
   exact aC (lQ (cL r9 rfl rfl) cX) ⟨⟨0,0,0⟩,rfl,hz0,(fun c h=>by cases h),x9⟩
 |some p=>
  obtain ⟨a,t⟩:=p
  have e1:yU l=.tuple #[.int .i64 (a:Nat),.int .u16 (t:Nat),.int .i64 0]:=by unfold yU;rw [hsg]
  have e2:cW s l=((cS s)[a]?).bind fun b=>if b.tag=0∨b.tag=t then some b else none:=by unfold cW;rw [hsg];rfl
  rw [e1]
  by_cases h0:e=0
  ·by_cases ha:a<(cS s).length
   ·have hok:=aX9 (gMe ha)
    have g1:=hok.tag
    have g2:t<65536:=by
     unfold gG at hsg
     split at hsg
     ·have:=gW (l.headD default) 2 1
      simp only [Option.some.injEq,Prod.mk.injEq] at hsg
      omega
     ·cases hsg
    rw [List.getElem?_eq_getElem ha] at e2
    have e2:cW s l=if (cS s)[a].tag=0∨(cS s)[a].tag=t then some (cS s)[a] else none:=e2
    generalize hB:(cS s)[a]=B at e2 hok g1
    repeat' (first|refine aJ (d:=some 23) (.bool false) rfl (by show some (Value.bool (!decide (e=0)))=_;rw [dTr h0];rfl) ?_|refine bY (d:=some 31) (E:=brE) (l:=cS s) rfl hl ?_|refine aJ (d:=some 32) (.bool false) rfl (congrArg (fun b=>some (Value.bool b)) (dFa (by omega))) ?_|(refine zg (fun w7 x7=>?_);replace hl:=hl.ext x7)|(refine aT (d:=some 37) (E:=brE) rfl rfl (n:=a) (l:=cS s) hl rfl ha (fun ad r4=>?_);rw [hB] at r4;have r4:Row _ ad [.int .u16 (B.tag:Nat),.int .u16 (B.delay:Nat),.int .u32 (B.height:Nat)]:=r4)|(refine aT (d:=some 41) (E:=brE) rfl rfl (n:=a) (l:=cS s) hl rfl ha (fun ad r5=>?_);rw [hB] at r5;have r5:Row _ ad [.int .u16 (B.tag:Nat),.int .u16 (B.delay:Nat),.int .u32 (B.height:Nat)]:=r5)|(refine bF4 (d:=some 48) (E:=brE) rfl rfl (n:=a) (l:=cS s) hl rfl ha (fun ad r6 hba=>?_);rw [hB] at r6;have r6:Row _ ad [.int .u16 (B.tag:Nat),.int .u16 (B.delay:Nat),.int .u32 (B.height:Nat)]:=r6)|refine zJ (p:=((B.tag:Nat):Int)=0) rfl (fun h=>?_) (fun h=>?_)|refine fR ?_ ?_|(refine bP (w0:=w) (vs:=brE.f B) (by exact fx) hb4 (by focus (repeat (first|assumption|(apply At.ext;assumption)))) rfl rfl rfl rfl rfl (fun w9 x9 c9 a9 r9=>?_);try (replace r6:=Row.chg c9 r6 (by have:=hbu _ hba;simp;omega)))|refine go1 ?_|refine zg λ_ _=>?_|refine zi λ_ _=>?_)
    all_goals
     have hcc:cW s l=some B∨cW s l=none∧¬(((B.tag:Nat):Int)=0)∧¬(((B.tag:Nat):Int)=(t:Nat)):=by
      rw [e2]
      by_cases q:B.tag=0∨B.tag=t
      ·exact .inl (if_pos q)
      ·exact .inr ⟨if_neg q,by omega,by omega⟩
     have hval:(cW s l).isSome=(decide (((B.tag:Nat):Int)=0)||decide (((B.tag:Nat):Int)=(t:Nat))):=by
      rcases hcc with q|⟨q,q1,q2⟩
      ·rw [q]
       rw [e2] at q
       have:B.tag=0∨B.tag=t:=by
        by_cases q3:B.tag=0∨B.tag=t
        ·exact q3
        ·rw [if_neg q3] at q;cases q
       rcases this with q4|q4
       ·rw [dTr (by omega)];rfl
       ·rw [dTr (p:=((B.tag:Nat):Int)=(t:Nat)) (by omega),Bool.or_true];rfl
      ·rw [q,dFa q1,dFa q2];rfl
     rw [hval]
     refine aC (lQ (cL r9 rfl rfl) cX) ⟨B,?_,hok,fun c hc=>?_,x9⟩
     ·first
       |(rw [dTr (by assumption:((B.tag:Nat):Int)=0)];rfl)
       |(rw [dFa (by assumption:¬((B.tag:Nat):Int)=0)];rfl)
     ·rcases hcc with q|⟨q,_⟩
      ·rw [q] at hc;injection hc
      ·rw [q] at hc;cases hc
   ·have e2:cW s l=none:=by rw [e2,List.getElem?_eq_none (by omega)];rfl
    rw [e2]
    repeat' (first|refine aJ (d:=some 23) (.bool false) rfl (by show some (Value.bool (!decide (e=0)))=_;rw [dTr h0];rfl) ?_|refine bY (d:=some 31) (E:=brE) (l:=cS s) rfl hl ?_|refine aJ (d:=some 32) (.bool true) rfl (congrArg (fun b=>some (Value.bool b)) (dTr (by omega))) ?_|refine bL (d:=some 34) (cs:=brE.f ⟨0,0,0⟩) rfl ?_|refine bP (w0:=w) (vs:=brE.f ⟨0,0,0⟩) (by exact fx) hb4 (by focus (repeat (first|assumption|(apply At.ext;assumption)))) rfl rfl rfl rfl rfl (fun w9 x9 c9 a9 r9=>?_)|refine go1 ?_|refine zg λ_ _=>?_|refine zi λ_ _=>?_)
    exact aC (lQ (cL r9 rfl rfl) cX) ⟨⟨0,0,0⟩,rfl,hz0,(fun c h=>by cases h),x9⟩
  ·have e2:cW s l=none:=by rw [e2,he h0];rfl
   rw [e2]
   repeat' (first|refine aJ (d:=some 23) (.bool true) rfl (by show some (Value.bool (!decide (e=0)))=_;rw [dFa h0];rfl) ?_|refine bL (d:=some 34) (cs:=brE.f ⟨0,0,0⟩) rfl ?_|refine bP (w0:=w) (vs:=brE.f ⟨0,0,0⟩) (by exact fx) hb4 (by focus (repeat (first|assumption|(apply At.ext;assumption)))) rfl rfl rfl rfl rfl (fun w9 x9 c9 a9 r9=>?_)|refine go1 ?_|refine zg λ_ _=>?_|refine zi λ_ _=>?_)
   exact aC (lQ (cL r9 rfl rfl) cX) ⟨⟨0,0,0⟩,rfl,hz0,(fun c h=>by cases h),x9⟩
end
end Go.Proofs.YtfebcajheojodaaGreatDoor
