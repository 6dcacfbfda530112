/- Contracts: what goes for a transaction; may an entry be replaced; by the program. Contracts: may an entry be replaced; does a transaction spend what it may not; by the program. Contracts: the least fee, and the rules, by the program. Contracts: the rules of replacing, by the program. Plain: what the document fixes of replacing. Contracts: what the document fixes of replacing. Plain: transactions a -/
import Derived.Test.YtbidkcjendncaaaGreatDoorDa19
set_option linter.unusedVariables false
set_option linter.unusedSimpArgs false
section
namespace Go.Proofs.YtbidkcjendncaaaGreatDoor
open Go Go.K
attribute [local irreducible] regK codeK retK KOp.wp K.Spec u32 leS vnS str zero32 sha2 encT idT sizeT checkT grantB
end Go.Proofs.YtbidkcjendncaaaGreatDoor
end
section
namespace Go.Proofs.YtbidkcjendncaaaGreatDoor
open Go Go.K
attribute [local irreducible] regK codeK retK KOp.wp K.Spec u32 leS vnS str zero32 sha2 encT idT sizeT checkT grantB
end Go.Proofs.YtbidkcjendncaaaGreatDoor
end
section
namespace Go.Proofs.YtbidkcjendncaaaGreatDoor
open Go Go.K
section
variable {P:Program} {d:Option Tmp} {r:KR} {K:Env→World→Prop} {ρ:Env} {w:World}
end
attribute [local irreducible] regK codeK retK KOp.wp K.Spec u32 leS vnS str zero32 sha2 encT idT sizeT checkT grantB
end Go.Proofs.YtbidkcjendncaaaGreatDoor
end
section
namespace Go.Proofs.YtbidkcjendncaaaGreatDoor
open Go Go.K
attribute [local irreducible] regK codeK retK KOp.wp K.Spec u32 leS vnS str zero32 sha2 encT idT sizeT checkT grantB
end Go.Proofs.YtbidkcjendncaaaGreatDoor
end
section
namespace Go.K
open Go Go.Proofs.YtbidkcjendncaaaGreatDoor
end Go.K
end
section
namespace Go.Proofs.YtbidkcjendncaaaGreatDoor
open Go Go.K
attribute [local irreducible] regK codeK retK KOp.wp K.Spec u32 leS vnS str zero32 sha2 encT idT sizeT checkT grantB oneM idL
attribute [local irreducible] eA
end Go.Proofs.YtbidkcjendncaaaGreatDoor
end
section
namespace Go.K
open Go
theorem pt_ext {p q:Pt} (h1:p.s=q.s) (h2:p.i=q.i):p=q:=by cases p;cases q;simp_all
end Go.K
end
section
namespace Go.Proofs.YtbidkcjendncaaaGreatDoor
open Go Go.K
attribute [local irreducible] regK codeK retK KOp.wp K.Spec u32 leS vnS str zero32 sha2 encT idT sizeT checkT grantB
end Go.Proofs.YtbidkcjendncaaaGreatDoor
end
section
namespace Go.Proofs.YtbidkcjendncaaaGreatDoor
open Go Go.K
attribute [local irreducible] regK codeK retK KOp.wp K.Spec u32 leS vnS str zero32 sha2 encT idT sizeT checkT grantB
end Go.Proofs.YtbidkcjendncaaaGreatDoor
end
section
namespace Go.Proofs.YtbidkcjendncaaaGreatDoor
open Go Go.K
attribute [local irreducible] regK codeK retK KOp.wp K.Spec u32 leS vnS str zero32 sha2 encT idT sizeT checkT grantB
end Go.Proofs.YtbidkcjendncaaaGreatDoor
end
section
namespace Go.Proofs.YtbidkcjendncaaaGreatDoor
open Go Go.K
attribute [local irreducible] regK codeK retK KOp.wp K.Spec u32 leS vnS str zero32
theorem asub_spec (a b:Int) (ha:goodB a=true) (hb:goodB b=true) (h:b≤a) (w:World):K.Spec Tryz.prog F.amount_Sub [.int .i64 a,.int .i64 b] w fun r w'=>r=.tuple #[.int .i64 (a - b),.int .i64 0]∧Ext w w':=by
 have h1:=(goodB_iff a).1 ha
 have h2:=(goodB_iff b).1 hb
 refine s_amount_Sub rfl ?_
 unfold k_amount_Sub
 refine oy ?_
 repeat' (first|(refine zF (d:=some 7) (v:=.bool true) ((qG _).trans (by rw [ha])) ?_)|(refine zF (d:=some 11) (v:=.bool true) ((qG _).trans (by rw [hb])) ?_)|(refine zL (p:=b>a) rfl (fun h=>absurd h (by omega)) (fun _=>?_))|(first|refine go1 ?_|refine zg (fun _ _=>?_)|refine zi (fun _ _=>?_)))
 exact x_ret rfl ⟨rfl,Ext.refl _⟩
end Go.Proofs.YtbidkcjendncaaaGreatDoor
end
section
namespace Go.Proofs.YtbidkcjendncaaaGreatDoor
open Go Go.K
attribute [local irreducible] regK codeK retK KOp.wp K.Spec u32 leS vnS str zero32 numAt byteAt
theorem byteAt_get {s:ByteArray} {i:Nat} (h:i<s.size):byteAt s i=s[i].toNat:=by
 unfold byteAt
 rw [List.getD_eq_getElem?_getD,List.getElem?_eq_getElem (by simpa using h)]
 rfl
theorem shl8 {n:Nat} (h:n<256^7):binVal .shl (.int .u64 (n:Nat)) (.int .u64 8)=some (.int .u64 ((n*256:Nat):Int)):=by
 simp only [binVal,isShift,if_true]
 rw [if_neg (by decide)]
 show some (Value.int .u64 (IntKind.u64.wrap ((n:Int)*256)))=_
 rw [u64_wrap (by omega) (by omega)];rfl
theorem or8 {n b:Nat} (h:n<256^7) (hb:b<256):binVal .or (.int .u64 ((n*256:Nat):Int)) (.int .u64 (b:Nat))=some (.int .u64 ((b+256*n:Nat):Int)):=by
 simp only [binVal,isShift,Bool.false_eq_true,if_false,if_true,intBin,IntKind.bits]
 have e:(BitVec.ofInt 64 ((n*256:Nat):Int)|||BitVec.ofInt 64 (b:Nat)).toNat=b+256*n:=by
  rw [BitVec.toNat_or,BitVec.toNat_ofInt,BitVec.toNat_ofInt]
  rw [show (((n*256:Nat):Int)%((2^64:Nat):Int)).toNat=n<<<8 by rw [Nat.shiftLeft_eq];omega,show (((b:Nat):Int)%((2^64:Nat):Int)).toNat=b by omega]
  rw [←Nat.shiftLeft_add_eq_or_of_lt (by omega:b<2^8),Nat.shiftLeft_eq];omega
 exact (congrArg (fun x:Nat=>some (Value.int .u64 (IntKind.u64.wrap (x:Int)))) e).trans (congrArg (fun x=>some (Value.int .u64 x)) (u64_wrap (by omega) (by omega)))
set_option maxHeartbeats 400000 in
theorem oget_spec (s:ByteArray) (a k:Nat) (hk:k=1∨k=2∨k=4∨k=8) (hs:a+k≤s.size) (hm:s.size≤100000000) (w:World):K.Spec Tryz.prog F.octet_Get [.string s,.int .i64 (a:Nat),.int .i64 (k:Nat)] w fun r w'=>r=.tuple #[.int .u64 (numAt s a k:Nat),.bool true]∧Ext w w':=by
 have hk8:k≤8:=by omega
 refine s_octet_Get rfl ?_
 unfold k_octet_Get
 refine oy ?_
 repeat' (first|(first|refine go1 ?_|refine zg (fun _ _=>?_)|refine zi (fun _ _=>?_))|(refine zC (d:=some 11) rfl (known_spec k hk _) ?_;rintro _ w1 ⟨rfl,x1⟩)|(refine zJ (p:=(a:Int)<0) rfl (fun h=>absurd h (by omega)) (fun _=>?_))|(refine zL (p:=(a:Int)>(s.size:Int) - (k:Int)) rfl (fun h=>absurd h (by omega)) (fun _=>?_))|(refine c_loopV (fun (j:Nat) w'=>Ext w w'∧j≤k) (fun j=> [(0,.string s),(1,.int .i64 (a:Nat)),(8,.int .u64 (numAt s (a+k - j) j:Nat)),(9,.int .i64 ((a:Int)+(k:Int) - 1 - (j:Int)))]) (fun j=>k - j) 0 ⟨rfl,rfl,(by unfold numAt;rfl),congrArg (Value.int .i64) (by omega),trivial⟩ ⟨x1,by omega⟩ ?_;rintro j ρ w3 ⟨x3,hj⟩))
 refine zL (p:=(a:Int)+(k:Int) - 1 - (j:Int)≥(a:Int)) rfl (fun h=>?_) (fun h=>?_)
 ·have hjk:j<k:=by omega
  have hlt:=numAt_lt s j (a+k - j)
  have hp:256^j≤256^7:=Nat.pow_le_pow_right (by decide) (by omega)
  have hn7:numAt s (a+k - j) j<256^7:=Nat.lt_of_lt_of_le hlt hp
  have hi:a+k - 1 - j<s.size:=by omega
  have hb:=s[a+k - 1 - j].toNat_lt
  have e:numAt s (a+k - (j+1)) (j+1)=s[a+k - 1 - j].toNat+256*numAt s (a+k - j) j:=by
   conv=>lhs;unfold numAt
   rw [show a+k - (j+1)=a+k - 1 - j by omega,byteAt_get hi,show a+k - 1 - j+1=a+k - j by omega]
  generalize hN:numAt s (a+k - j) j=n at hn7 e hlt ⊢
  generalize hB:s[a+k - 1 - j].toNat=b at hb e
  have f35:=shl8 hn7
  have f40:=or8 hn7 hb
  repeat (first|(refine st_fixV (d:=some 35) (.int .u64 ((n*256:Nat):Int)) rfl f35 ?_)|(refine st_idxS (d:=some 38) (k:=.i64) (n:=a+k - 1 - j) rfl (congrArg (Value.int .i64) (by omega)) hi ?_;rw [hB])|(refine st_fixV (d:=some 39) (.int .u64 (b:Nat)) rfl (congrArg (fun n=>some (Value.int .u64 n)) (u64_wrap (by omega) (by omega))) ?_)|(refine st_fixV (d:=some 40) (.int .u64 ((b+256*n:Nat):Int)) rfl f40 ?_)|(first|refine go1 ?_|refine zg (fun _ _=>?_)|refine zi (fun _ _=>?_)))
  exact ⟨j+1,⟨rfl,rfl,congrArg (fun n:Nat=>Value.int .u64 n) e.symm,congrArg (Value.int .i64) (by omega),trivial⟩,⟨x3,by omega⟩,by omega⟩
 ·have e:j=k:=by omega
  subst e
  repeat (first|refine go1 ?_|refine zg (fun _ _=>?_)|refine zi (fun _ _=>?_))
  exact x_ret rfl ⟨congrArg (fun n:Nat=>Value.tuple #[.int .u64 (n:Int),.bool true]) (congrArg (fun z=>numAt s z j) (show a+j - j=a by omega)),x3⟩
theorem number_spec (s:ByteArray) (a k:Nat) (hk:k=1∨k=2∨k=4∨k=8) (hs:a+k≤s.size) (hm:s.size≤100000000) (w:World):K.Spec Tryz.prog F.lock_number [.string s,.int .i64 (a:Nat),.int .i64 (k:Nat)] w fun r w'=>r=.int .u64 (numAt s a k:Nat)∧Ext w w':=by
 refine s_lock_number rfl ?_
 unfold k_lock_number
 refine oy ?_
 repeat' (first|(first|refine go1 ?_|refine zg (fun _ _=>?_)|refine zi (fun _ _=>?_))|(refine zC (d:=some 13) rfl (oget_spec s a k hk hs hm _) ?_;rintro _ w1 ⟨rfl,x1⟩))
 exact x_ret rfl ⟨rfl,x1⟩
end Go.Proofs.YtbidkcjendncaaaGreatDoor
end
section
namespace Go.Proofs.YtbidkcjendncaaaGreatDoor
open Go Go.K
attribute [local irreducible] regK codeK retK KOp.wp K.Spec u32 leS vnS str zero32 numAt byteAt
theorem put1_spec (n:Nat) (hn:n<18446744073709551616) (w:World):K.Spec Tryz.prog F.octet_Put [.int .u64 (n:Nat),.int .i64 1] w fun r w'=>r=.string (leS n 1)∧Ext w w':=put_spec n 1 (by decide) hn w
theorem put2_spec (n:Nat) (hn:n<18446744073709551616) (w:World):K.Spec Tryz.prog F.octet_Put [.int .u64 (n:Nat),.int .i64 2] w fun r w'=>r=.string (leS n 2)∧Ext w w':=put_spec n 2 (by decide) hn w
theorem put4_spec (n:Nat) (hn:n<18446744073709551616) (w:World):K.Spec Tryz.prog F.octet_Put [.int .u64 (n:Nat),.int .i64 4] w fun r w'=>r=.string (leS n 4)∧Ext w w':=put_spec n 4 (by decide) hn w
def lputE (l:List Br):Int:=if l.length<1∨3<l.length then 6 else if l.all lowB then 0 else 3
set_option maxHeartbeats 1000000 in
theorem lput_spec {v : Value} {l : List Br} (w : World) (hv : SlE brE w v l) (ho : ∀ b ∈ l, BrOk b) : K.Spec Tryz.prog F.lock_Put [v] w fun r w' => ∃ s, r = .tuple #[.string s, .int .i64 (lputE l)] ∧ Ext w w' := by
  refine s_lock_Put rfl ?_
  unfold k_lock_Put
  refine oy ?_
  repeat' (first|(refine st_len (E := brE) (l := l) rfl (SlE.ext (w := w) (by exact fx) hv) ?_)|(refine zJ (p := ((l.length : Nat) : Int) < 1) rfl (fun h => ?_) (fun h => ?_))|(refine zL (p := ((l.length : Nat) : Int) > 3) rfl (fun h => ?_) (fun h => ?_))|(refine zH (d := some 4) (fun b w0 x0 a0 hb0 => ?_); have hW : BldT b b ⟨#[]⟩ w0 := (Bld.new (Nat.le_refl _) a0))|(refine st_fixV (d := some 17) (.int .u64 (l.length : Nat)) rfl (congrArg (fun n => some (Value.int .u64 n)) (u64_wrap (by omega) (by omega))) ?_)|(refine zC (d := some 18) rfl (put1_spec l.length (by omega) _) ?_; rintro _ w1 ⟨rfl, x1⟩)|(refine zC (d := some 19) rfl (wrs_spec (leS l.length 1) _ (by exact fx) (by decide) (by rw [leS_size]; decide)) ?_; rintro _ w2 ⟨hW2, rW, hS⟩; have xW := rW.ext (w0 := w) (by exact fx) hb0; replace hS : ((⟨#[]⟩ : ByteArray) ++ leS l.length 1).size ≤ 2000000 := (Nat.le_trans hS (by decide)); clear hW x0 x1)|(refine c_loopV (fun (p : Nat × ByteArray) w' => Ext w w' ∧ p.1 ≤ l.length ∧ BldT b b p.2 w' ∧ p.2.size ≤ 2000000 + 1000000 * p.1 ∧ (l.take p.1).all lowB = true) (fun p => [(4, .pointer (some ⟨b, 0, none⟩)), (20, v), (21, .int .i64 (l.length : Nat)), (22, .int .i64 p.1)]) (fun p => l.length - p.1) (0, _) ⟨rfl, rfl, rfl, rfl, trivial⟩ ⟨by exact fx, by simp, by exact fx, by simpa using hS, by simp⟩ ?_; rintro ⟨i, s⟩ ρ w3 ⟨x3, hi, hW3, hS3, ha⟩; simp only at hi hW3 hS3 ha; dsimp only)|(refine zL (p := ((i : Nat) : Int) < ((l.length : Nat) : Int)) rfl (fun h => ?_) (fun h => ?_))|(first|refine go1 ?_|refine zg (fun _ _=>?_)|refine zi (fun _ _=>?_)))
  · exact x_ret rfl ⟨_, by rw [lputE, if_pos (by omega)]; rfl, by exact fx⟩
  · exact x_ret rfl ⟨_, by rw [lputE, if_pos (by omega)]; rfl, by exact fx⟩
  · have hil : i < l.length := by omega
    have hok := ho _ (List.getElem_mem hil)
    have h1 := hok.tag
    have h2 := hok.delay
    have h3 := hok.height
    refine st_elemE (d := some 24) (E := brE) rfl rfl (n := i) (l := l) (hv.ext x3) rfl hil (fun ad r4 => ?_)
    have r4 : Row w3 ad [.int .u16 (l[i].tag : Nat), .int .u16 (l[i].delay : Nat), .int .u32 (l[i].height : Nat)] := r4
    have hb3 : w.heap.size ≤ b := hb0
    repeat' (first|(refine zE (d' := 6) (fun _=>rfl) rfl rfl rfl (fun b6 w6 x6 a6 (r6 : Row w6 ⟨b6, 0, none⟩ [.int .u16 (l[i].tag : Nat), .int .u16 (l[i].delay : Nat), .int .u32 (l[i].height : Nat)]) hb6=>?_); have hne : b6 ≠ b := (by have := hW3.lt; omega))|(first|refine go1 ?_|refine zg (fun _ _=>?_)|refine zi (fun _ _=>?_)))
    refine zL (p := ((l[i].height : Nat) : Int) > 1000000) rfl (fun h => ?_) (fun h => ?_)
    · repeat (first|refine go1 ?_|refine zg (fun _ _=>?_)|refine zi (fun _ _=>?_))
      refine x_ret rfl ⟨⟨#[]⟩, ?_, Ext.trans x3 x6⟩
      have e : lputE l = 3 := by
       rw [lputE, if_neg (by omega), if_neg]
       rw [List.all_eq_true]
       intro hall
       have := hall _ (List.getElem_mem hil)
       unfold lowB at this
       have := of_decide_eq_true this
       omega
      rw [e]; rfl
    · have hlow : (l.take (i + 1)).all lowB = true := by
        rw [List.take_succ_eq_append_getElem hil, List.all_append, ha]
        simp only [List.all_cons, List.all_nil, Bool.and_true, Bool.true_and]
        exact decide_eq_true (by omega)
      have hW6 : BldT b b s w6 := hW3.ext x6
      have x06 : Ext w w6 := x3.trans x6
      clear hW3 hW2 x6 x3 r4 xW rW
      repeat' (first|(refine zg (fun w7 x7 => ?_))|(refine zA ?_)|(refine st_both ?_ ?_)|(refine st_fixV (d := some 31) (.int .u64 (l[i].tag : Nat)) rfl (congrArg (fun n => some (Value.int .u64 n)) (u64_wrap (by omega) (by omega))) ?_)|(refine st_fixV (d := some 35) (.int .u64 (l[i].delay : Nat)) rfl (congrArg (fun n => some (Value.int .u64 n)) (u64_wrap (by omega) (by omega))) ?_)|(refine st_fixV (d := some 40) (.int .u64 (l[i].height : Nat)) rfl (congrArg (fun n => some (Value.int .u64 n)) (u64_wrap (by omega) (by omega))) ?_)|(refine zC (d := some 32) rfl (put2_spec l[i].tag (by omega) _) ?_; rintro _ w8 ⟨rfl, x8⟩)|(refine zC (d := some 36) rfl (put2_spec l[i].delay (by omega) _) ?_; rintro _ w9 ⟨rfl, x9⟩)|(refine zC (d := some 41) rfl (put4_spec l[i].height (by omega) _) ?_; rintro _ w10 ⟨rfl, x10⟩)|(refine st_catS (d := some 37) rfl rfl (by rw [leS_size, leS_size]; decide) ?_)|(refine st_catS (d := some 42) rfl rfl (by rw [ByteArray.size_append, leS_size, leS_size, leS_size]; decide) ?_)|(refine zC (d := some 43) rfl (wrs_spec (leS l[i].tag 2 ++ leS l[i].delay 2 ++ leS l[i].height 4) _ (by exact fx) (by omega) (by rw [ByteArray.size_append, ByteArray.size_append, leS_size, leS_size, leS_size]; decide)) ?_; rintro _ w11 ⟨hW11, rW11, hS11⟩; have xW11 := rW11.ext (w0 := w) (by exact fx) hb3)|(first|refine go1 ?_|refine zg (fun _ _=>?_)|refine zi (fun _ _=>?_)))
      all_goals exact ⟨(i + 1, _), ⟨rfl, rfl, rfl, rfl, trivial⟩, ⟨xW11, hil, hW11, Nat.le_trans hS11 (by omega), hlow⟩, by show l.length - (i + 1) < l.length - i; omega⟩
  · have ei : i = l.length := by omega
    subst ei
    rw [List.take_length] at ha
    repeat' (first|(first|refine go1 ?_|refine zg (fun _ _=>?_)|refine zi (fun _ _=>?_))|(refine zC (d := some 45) rfl (bstr_spec _ (by exact fx)) ?_; rintro _ w9 ⟨rfl, hW9, rW9⟩; have xW9 := rW9.ext (w0 := w) (by exact fx) hb0))
    exact x_ret rfl ⟨_, by rw [lputE, if_neg (by omega), if_pos ha]; rfl, by exact fx⟩
end Go.Proofs.YtbidkcjendncaaaGreatDoor
end
section
namespace Go.Proofs.YtbidkcjendncaaaGreatDoor
open Go Go.K
attribute [local irreducible] regK codeK retK KOp.wp K.Spec u32 leS vnS str zero32 numAt byteAt
theorem lock_bad {s:ByteArray} (h:¬(s.size=1+8*byteAt s 0∧byteAt s 0≤3)):lockL s= []:=by
 unfold lockL
 rw [if_neg]
 intro h2
 apply h
 simp only [lockForm,Bool.and_eq_true,Bool.or_eq_true,decide_eq_true_eq] at h2
 obtain ⟨⟨h3,h4⟩,_⟩:=h2
 have h4:byteAt s 0=(s.size - 1) / 8:=h4
 omega
theorem lock_put {s:ByteArray} (h:s.size=1+8*byteAt s 0) (h3:byteAt s 0≤3):lockN s=byteAt s 0∧lockL s=if lputE (brsL s)=0 then brsL s else []:=by
 have hn:lockN s=byteAt s 0:=by unfold lockN;omega
 refine ⟨hn,?_⟩
 have hl:(brsL s).length=byteAt s 0:=by simp [brsL,hn]
 unfold lockL lputE
 by_cases h0:byteAt s 0=0
 ·have e:lockForm s=false:=by
   cases hf:lockForm s with
   |false=>rfl
   |true=>
    simp only [lockForm,Bool.and_eq_true,Bool.or_eq_true,decide_eq_true_eq] at hf
    omega
  rw [e,if_pos (by omega:(brsL s).length<1∨3<(brsL s).length)];rfl
 ·have hf:lockForm s=true:=by
   simp only [lockForm,Bool.and_eq_true,Bool.or_eq_true,decide_eq_true_eq]
   omega
  rw [hf,Bool.true_and,if_neg (by omega:¬((brsL s).length<1∨3<(brsL s).length))]
  cases hb:(brsL s).all lowB<;>rfl
theorem brs_take {s:ByteArray} {i:Nat}:(List.range (i+1)).map (brAt s)=(List.range i).map (brAt s)++ [brAt s i]:=by rw [List.range_succ,List.map_append];rfl
theorem u16_wrap {n:Nat} (h:n<65536):IntKind.u16.wrap (n:Int)=(n:Int):=by show (n:Int)%65536=n;omega
theorem u32_wrap {n:Nat} (h:n<4294967296):IntKind.u32.wrap (n:Int)=(n:Int):=by show (n:Int)%4294967296=n;omega
theorem st_elemEB {P:Program} {d:Option Tmp} {r:KR} {K:Env→World→Prop} {ρ:Env} {w:World} {α:Type} {E:Enc α} {size:Nat} {x i:Operand} {v:Value} {l:List α} {kd:IntKind} {n:Nat} (hx:ev ρ x=v) (hi:ev ρ i=.int kd (n:Nat)) (hs:SlE E w v l) (hk:size=E.k) (hr:n<l.length) (k:∀ad,Row w ad (E.f l[n])→ad.block∈blkOf v→regK P r K (put ρ d (.pointer (some ad))) w):regK P (.cons ⟨d,.indexAddr size x i,none⟩ r) K ρ w:=by
 subst hk
 obtain ⟨a,cap,hv,hrow⟩:=Sl.at_ hs E.pos hr
 subst hv
 exact st_fix rfl (by simp [KOp.fix,hx,hi,hr]) (k (a.add (n*E.k)) (by rw [E.flat_at l n hr] at hrow;exact hrow) (by simp [blkOf,add_block]))
set_option maxHeartbeats 1000000 in
theorem lget_spec (s:ByteArray) (hm:s.size≤1000000) (w:World):K.Spec Tryz.prog F.lock_Get [.string s] w fun r w'=>∃v e,r=.tuple #[v,.int .i64 e]∧SlE brE w' v (lockL s)∧(e≠0→lockL s= [])∧(∀b∈blkOf v,w.heap.size≤b)∧Ext w w':=by
 refine s_lock_Get rfl ?_
 unfold k_lock_Get
 refine oy ?_
 by_cases h0:s=⟨#[]⟩
 ·have hb:lockL s= []:=lock_bad (by subst h0;have:(⟨#[]⟩:ByteArray).size=0:=rfl;omega)
  rw [hb]
  repeat' (first|(refine st_fixV (d:=some 9) (.bool true) rfl (congrArg (fun b=>some (Value.bool b)) (decide_eq_true h0)) ?_)|(first|refine go1 ?_|refine zg (fun _ _=>?_)|refine zi (fun _ _=>?_)))
  exact x_ret rfl ⟨.slice none 0 0,_,rfl,SlE.nil _,fun _=>rfl,(fun b hb=>absurd hb (by simp [blkOf])),Ext.refl _⟩
 have hsz:0<s.size:=by
  rcases Nat.eq_zero_or_pos s.size with h|h
  ·exact absurd (ByteArray.ext (Array.eq_empty_of_size_eq_zero (by simpa using h))) h0
  ·exact h
 have hb0:=byteAt_get hsz
 have hb8:=s[0].toNat_lt
 obtain ⟨n,hn⟩:∃n:Nat,n=s[0].toNat:=⟨_,rfl⟩
 rw [←hn] at hb0 hb8
 have pre:s.size=1+8*byteAt s 0∧byteAt s 0≤3∨¬(s.size=1+8*byteAt s 0∧byteAt s 0≤3):=by omega
 repeat' (first|(refine st_fixV (d:=some 9) (.bool false) rfl (congrArg (fun b=>some (Value.bool b)) (decide_eq_false h0)) ?_)|(refine st_idxS (d:=some 12) (k:=.i64) (n:=0) rfl rfl hsz ?_;rw [←hn])|(refine st_fixV (d:=some 13) (.int .i64 (n:Nat)) rfl (congrArg (fun n=>some (Value.int .i64 n)) (wrap_n8 (by omega))) ?_)|(refine zJ (p:=((n:Nat):Int)>3) rfl (fun h=>?_) (fun h=>?_))|(refine st_idxS (d:=some 20) (k:=.i64) (n:=0) rfl rfl hsz ?_;rw [←hn])|(refine st_fixV (d:=some 21) (.int .i64 (n:Nat)) rfl (congrArg (fun n=>some (Value.int .i64 n)) (wrap_n8 (by omega))) ?_)|(refine st_mul (d:=some 22) (a:=8) (b:=(n:Nat)) rfl rfl (by omega) ?_)|(refine zN (p:=((s.size:Nat):Int)=1+8*((n:Nat):Int)) rfl (fun h=>?_) (fun h=>?_))|(refine c_loopV (fun (p:Nat × Value) w'=>Ext w w'∧p.1≤n∧Own brE T.api_Branch w.heap.size w' p.2 ((List.range p.1).map (brAt s))) (fun p=> [(0,.string s),(4,p.2),(5,.int .i64 (1+8*(p.1:Int)))]) (fun p=>n - p.1) (0,.slice none 0 0) ⟨rfl,rfl,rfl,trivial⟩ ⟨Ext.refl _,by simp,Own.nil _ _ _⟩ ?_;rintro ⟨i,v4⟩ ρ w3 ⟨x3,hi,ho⟩;simp only at hi ho;dsimp only)|(refine zL (p:=1+8*((i:Nat):Int)<((s.size:Nat):Int)) rfl (fun h=>?_) (fun h=>?_))|(first|refine go1 ?_|refine zg (fun _ _=>?_)|refine zi (fun _ _=>?_)))
 ·rw [lock_bad (by omega)]
  exact x_ret rfl ⟨.slice none 0 0,_,rfl,SlE.nil _,fun _=>rfl,(fun b hb=>absurd hb (by simp [blkOf])),Ext.refl _⟩
 ·rw [lock_bad (by omega)]
  exact x_ret rfl ⟨.slice none 0 0,_,rfl,SlE.nil _,fun _=>rfl,(fun b hb=>absurd hb (by simp [blkOf])),Ext.refl _⟩
 ·have hin:i<n:=by omega
  have q1:=numAt_lt s 2 (1+8*i)
  have q2:=numAt_lt s 2 (3+8*i)
  have q3:=numAt_lt s 4 (5+8*i)
  repeat' (first|(refine zC (d:=some 35) (congrArg (fun z=> [Value.string s,Value.int .i64 z,Value.int .i64 2]) (by omega)) (number_spec s (1+8*i) 2 (by decide) (by omega) (by omega) _) ?_;rintro _ w4 ⟨rfl,x4⟩)|(refine st_fixV (d:=some 36) (.int .u16 (numAt s (1+8*i) 2:Nat)) rfl (congrArg (fun n=>some (Value.int .u16 n)) (u16_wrap q1)) ?_)|(refine zC (d:=some 40) (congrArg (fun z=> [Value.string s,Value.int .i64 z,Value.int .i64 2]) (by omega)) (number_spec s (3+8*i) 2 (by decide) (by omega) (by omega) _) ?_;rintro _ w5 ⟨rfl,x5⟩)|(refine st_fixV (d:=some 41) (.int .u16 (numAt s (3+8*i) 2:Nat)) rfl (congrArg (fun n=>some (Value.int .u16 n)) (u16_wrap q2)) ?_)|(refine zC (d:=some 45) (congrArg (fun z=> [Value.string s,Value.int .i64 z,Value.int .i64 4]) (by omega)) (number_spec s (5+8*i) 4 (by decide) (by omega) (by omega) _) ?_;rintro _ w6 ⟨rfl,x6⟩)|(refine st_fixV (d:=some 46) (.int .u32 (numAt s (5+8*i) 4:Nat)) rfl (congrArg (fun n=>some (Value.int .u32 n)) (u32_wrap q3)) ?_)|(refine st_build (d:=some 47) (cs:=brE.f (brAt s i)) rfl ?_)|(refine zI (d:=some 48) (cs:=brE.f (brAt s i)) rfl (fun b9 w9 x9 a9 hb9=>?_))|(refine st_append (d:=some 49) (E:=brE) (v:=v4) (l2:= [brAt s i]) rfl (ho.ext (by exact fx)) (Ext.size (w:=w) (by exact fx)) rfl rfl (sl_new a9 rfl) rfl rfl (by simp;omega) (fun v10 w10 o10 c10=>?_))|(first|refine go1 ?_|refine zg (fun _ _=>?_)|refine zi (fun _ _=>?_)))
  exact ⟨(i+1,v10),⟨rfl,rfl,congrArg (Value.int .i64) (by simp only;omega),trivial⟩,⟨(Ext.chg (w:=w) (by exact fx) c10).mono (fun b hb=>.inr (ho.base b hb)),by simp only;omega,by simp only;rw [brs_take];exact o10⟩,by simp only;omega⟩
 ·have ei:i=n:=by omega
  subst ei
  have hp:=lock_put (s:=s) (by omega) (by omega)
  have hl:(List.range i).map (brAt s)=brsL s:=by unfold brsL;rw [hp.1,hb0]
  rw [hl] at ho
  have hok:∀b∈brsL s,BrOk b:=fun b hb=>by
   unfold brsL at hb
   obtain ⟨j,_,rfl⟩:=List.mem_map.1 hb
   exact brAt_ok s j
  rw [hp.2]
  repeat' (first|(refine zC (d:=some 52) rfl (lput_spec _ (SlE.ext (w:=w3) (by exact fx) ho.sl) hok) ?_;rintro _ w4 ⟨z,rfl,x4⟩)|(refine zN (p:=lputE (brsL s)=0) rfl (fun h=>?_) (fun h=>?_))|(first|refine go1 ?_|refine zg (fun _ _=>?_)|refine zi (fun _ _=>?_)))
  ·rw [if_neg h]
   exact x_ret rfl ⟨.slice none 0 0,_,rfl,SlE.nil _,fun _=>rfl,(fun b hb=>absurd hb (by simp [blkOf])),by exact fx⟩
  ·rw [if_pos h]
   exact x_ret rfl ⟨_,_,rfl,SlE.ext x4 ho.sl,fun he=>absurd rfl he,ho.base,by exact fx⟩
def signV (l:List ByteArray):Value:=match signL l with
 |some (a,t)=>.tuple #[.int .i64 (a:Nat),.int .u16 (t:Nat),.int .i64 0]
 |none=>.tuple #[.int .i64 0,.int .u16 0,.int .i64 4]
theorem signed_spec {v:Value} {l:List ByteArray} (w:World) (hv:SlE strE w v l) (hz:∀z∈l,z.size≤1000000):K.Spec Tryz.prog F.lock_Signed [v] w fun r w'=>r=signV l∧Ext w w':=by
 refine s_lock_Signed rfl ?_
 unfold k_lock_Signed
 refine oy ?_
 by_cases h1:l.length=1
 ·obtain ⟨z,rfl⟩:∃z,l= [z]:=by
   match l,h1 with
   | [z],_=>exact ⟨z,rfl⟩
  have hzm:=hz z (by simp)
  by_cases h3:z.size=3
  ·have hb0:=byteAt_get (s:=z) (i:=0) (by omega)
   have hb8:=z[0].toNat_lt
   obtain ⟨n,hn⟩:∃n:Nat,n=z[0].toNat:=⟨_,rfl⟩
   rw [←hn] at hb0 hb8
   have q1:=numAt_lt z 2 1
   by_cases h4:n<3
   ·have e:signV [z]=.tuple #[.int .i64 (n:Nat),.int .u16 (numAt z 1 2:Nat),.int .i64 0]:=by
     unfold signV signL
     rw [if_pos ⟨rfl,h3,by show byteAt z 0<3;omega⟩]
     show Value.tuple #[.int .i64 (byteAt z 0:Nat),_,_]=_
     rw [hb0];rfl
    rw [e]
    repeat' (first|(refine st_len (d:=some 6) (E:=strE) (l:= [z]) rfl (SlE.ext (w:=w) (by exact fx) hv) ?_)|(refine st_fixV (d:=some 7) (.bool false) rfl rfl ?_)|(refine st_elemE (d:=some 10) (E:=strE) rfl rfl (n:=0) (l:= [z]) (SlE.ext (w:=w) (by exact fx) hv) rfl (by simp) (fun ad r4=>?_);have r4:Row _ ad [Value.string z]:=r4)|(refine st_fixV (d:=some 13) (.bool false) rfl (by show some (Value.bool (!decide (((z.size:Nat):Int)=3)))=_;rw [decide_eq_true (by omega)];rfl) ?_)|(refine st_elemE (d:=some 17) (E:=strE) rfl rfl (n:=0) (l:= [z]) (SlE.ext (w:=w) (by exact fx) hv) rfl (by simp) (fun ad r5=>?_);have r5:Row _ ad [Value.string z]:=r5)|(refine st_idxS (d:=some 19) (k:=.i64) (n:=0) rfl rfl (by omega) ?_;rw [←hn])|(refine st_fixV (d:=some 20) (.bool false) rfl (congrArg (fun b=>some (Value.bool b)) (decide_eq_false (by omega))) ?_)|(refine zg (fun w7 x7=>?_))|(refine st_both ?_ ?_)|(refine st_elemE (d:=some 23) (E:=strE) rfl rfl (n:=0) (l:= [z]) (SlE.ext (w:=w) (by exact fx) hv) rfl (by simp) (fun ad r6=>?_);have r6:Row _ ad [Value.string z]:=r6)|(refine st_elemE (d:=some 28) (E:=strE) rfl rfl (n:=0) (l:= [z]) (SlE.ext (w:=w) (by exact fx) hv) rfl (by simp) (fun ad r7=>?_);have r7:Row _ ad [Value.string z]:=r7)|(refine st_idxS (d:=some 25) (k:=.i64) (n:=0) rfl rfl (by omega) ?_;rw [←hn])|(refine st_fixV (d:=some 26) (.int .i64 (n:Nat)) rfl (congrArg (fun n=>some (Value.int .i64 n)) (wrap_n8 (by omega))) ?_)|(refine zC (d:=some 30) rfl (number_spec z 1 2 (by decide) (by omega) (by omega) _) ?_;rintro _ w8 ⟨rfl,x8⟩)|(refine st_fixV (d:=some 31) (.int .u16 (numAt z 1 2:Nat)) rfl (congrArg (fun n=>some (Value.int .u16 n)) (u16_wrap q1)) ?_)|(first|refine go1 ?_|refine zg (fun _ _=>?_)|refine zi (fun _ _=>?_)))
    all_goals exact x_ret rfl ⟨rfl,by exact fx⟩
   ·have e:signV [z]=.tuple #[.int .i64 0,.int .u16 0,.int .i64 4]:=by
     unfold signV signL
     rw [if_neg]
     rintro ⟨_,_,h⟩
     have h:byteAt z 0<3:=h
     omega
    rw [e]
    repeat' (first|(refine st_len (d:=some 6) (E:=strE) (l:= [z]) rfl (SlE.ext (w:=w) (by exact fx) hv) ?_)|(refine st_fixV (d:=some 7) (.bool false) rfl rfl ?_)|(refine st_elemE (d:=some 10) (E:=strE) rfl rfl (n:=0) (l:= [z]) (SlE.ext (w:=w) (by exact fx) hv) rfl (by simp) (fun ad r4=>?_);have r4:Row _ ad [Value.string z]:=r4)|(refine st_fixV (d:=some 13) (.bool false) rfl (by show some (Value.bool (!decide (((z.size:Nat):Int)=3)))=_;rw [decide_eq_true (by omega)];rfl) ?_)|(refine st_elemE (d:=some 17) (E:=strE) rfl rfl (n:=0) (l:= [z]) (SlE.ext (w:=w) (by exact fx) hv) rfl (by simp) (fun ad r5=>?_);have r5:Row _ ad [Value.string z]:=r5)|(refine st_idxS (d:=some 19) (k:=.i64) (n:=0) rfl rfl (by omega) ?_;rw [←hn])|(refine st_fixV (d:=some 20) (.bool true) rfl (congrArg (fun b=>some (Value.bool b)) (decide_eq_true (by omega))) ?_)|(first|refine go1 ?_|refine zg (fun _ _=>?_)|refine zi (fun _ _=>?_)))
    exact x_ret rfl ⟨rfl,by exact fx⟩
  ·have e:signV [z]=.tuple #[.int .i64 0,.int .u16 0,.int .i64 4]:=by
    unfold signV signL
    rw [if_neg]
    rintro ⟨_,h,_⟩
    exact h3 h
   rw [e]
   repeat' (first|(refine st_len (d:=some 6) (E:=strE) (l:= [z]) rfl (SlE.ext (w:=w) (by exact fx) hv) ?_)|(refine st_fixV (d:=some 7) (.bool false) rfl rfl ?_)|(refine st_elemE (d:=some 10) (E:=strE) rfl rfl (n:=0) (l:= [z]) (SlE.ext (w:=w) (by exact fx) hv) rfl (by simp) (fun ad r4=>?_);have r4:Row _ ad [Value.string z]:=r4)|(refine st_fixV (d:=some 13) (.bool true) rfl (by show some (Value.bool (!decide (((z.size:Nat):Int)=3)))=_;rw [decide_eq_false (by omega)];rfl) ?_)|(first|refine go1 ?_|refine zg (fun _ _=>?_)|refine zi (fun _ _=>?_)))
   exact x_ret rfl ⟨rfl,by exact fx⟩
 ·have e:signV l=.tuple #[.int .i64 0,.int .u16 0,.int .i64 4]:=by
   unfold signV signL
   rw [if_neg]
   rintro ⟨h,_⟩
   exact h1 h
  rw [e]
  repeat' (first|(refine st_len (d:=some 6) (E:=strE) (l:=l) rfl (SlE.ext (w:=w) (by exact fx) hv) ?_)|(refine st_fixV (d:=some 7) (.bool true) rfl (by show some (Value.bool (!decide (((l.length:Nat):Int)=1)))=_;rw [decide_eq_false (by omega)];rfl) ?_)|(first|refine go1 ?_|refine zg (fun _ _=>?_)|refine zi (fun _ _=>?_)))
  exact x_ret rfl ⟨rfl,by exact fx⟩
end Go.Proofs.YtbidkcjendncaaaGreatDoor
end
