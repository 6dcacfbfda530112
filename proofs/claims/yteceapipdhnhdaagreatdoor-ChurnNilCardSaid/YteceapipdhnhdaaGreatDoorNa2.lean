/- DERIVED: THE SHELF's CONTRACTS AT THIS DUMP, IN PLAIN WORDS  -/
import Derived.Shelf.Strings.Builder1
import Derived.Shelf.Strings.Builder2
import Derived.Shelf.Small.Strs
import Derived.Shelf.Strings.BuilderF
import Derived.Shelf.Strings.BuilderK
import Derived.Shelf.Strings.Prefix
import Derived.Shelf.Bits.Mul64
import Derived.Shelf.Strings.Repeat
import Derived.Ground.SlgnProg
import Derived.Ground.SlgfProg
import Derived.Test.YteceapipdhnhdaaGreatDoorProg
import Derived.Ground.SlmcProg
import Derived.Shelf.SlMaps.Clone
import Derived.Shelf.SlicesE.DeleteFunc
set_option linter.unusedVariables false
set_option linter.unusedSimpArgs false
namespace Go.Proofs
section
open Go.Shelf
def Tryz.lays106_ren:Go.Shelf.Ren:=⟨fun|106=>311|213=>322|265=>327|n=>n,fun|9=>9|3=>3|n=>n,fun|n=>n⟩
theorem Tryz.lays106 : Go.Proofs.Lays.n106 Tryz.prog Tryz.lays106_ren := {
  mixed := by kernel_rfl
  f106 := Tryz.func311.trans (congrArg some (by kernel_rfl))
  f213 := Tryz.func322.trans (congrArg some (by kernel_rfl))
  f265 := Tryz.func327.trans (congrArg some (by kernel_rfl))
  t3 := Tryz.underlying3
  a3 := Tryz.isAgg3
  z3 := Tryz.sizeOf3
  v3 := Tryz.zeroValue3
  t9 := Tryz.underlying9
  a9 := Tryz.isAgg9
  z9 := Tryz.sizeOf9
  v9 := Tryz.zeroValue9 }
open Go.RowKit in
theorem Tryz.strings_Compare (a b:ByteArray) (w:World):
  Calls Tryz.prog 311 #[.string a,.string b] w fun e w'=>e=.returned (.int .i64 (Lib.compareBytes a.data.toList b.data.toList))∧w'=w:=Any.strings_Compare Tryz.lays106 a b w
def Tryz.lays105_ren:Go.Shelf.Ren:=⟨fun|105=>129|212=>205|99=>206|165=>207|166=>180|170=>208|169=>184|263=>262|264=>134|206=>263|240=>251|241=>264|276=>282|277=>293|n=>n,fun|9=>9|3=>3|4=>4|20=>20|0=>0|46=>308|109=>309|5=>5|72=>284|76=>150|51=>22|146=>353|53=>232|148=>233|70=>282|37=>62|75=>53|127=>345|164=>257|80=>288|n=>n,fun|n=>n⟩
theorem Tryz.lays105 : Go.Proofs.Lays.n105 Tryz.prog Tryz.lays105_ren := {
  mixed := by kernel_rfl
  f99 := Tryz.func206.trans (congrArg some (by kernel_rfl))
  f105 := Tryz.func129.trans (congrArg some (by kernel_rfl))
  f165 := Tryz.func207.trans (congrArg some (by kernel_rfl))
  f166 := Tryz.func180.trans (congrArg some (by kernel_rfl))
  f169 := Tryz.func184.trans (congrArg some (by kernel_rfl))
  f170 := Tryz.func208.trans (congrArg some (by kernel_rfl))
  f206 := Tryz.func263.trans (congrArg some (by kernel_rfl))
  f212 := Tryz.func205.trans (congrArg some (by kernel_rfl))
  f240 := Tryz.func251.trans (congrArg some (by kernel_rfl))
  f241 := Tryz.func264.trans (congrArg some (by kernel_rfl))
  f263 := Tryz.func262.trans (congrArg some (by kernel_rfl))
  f264 := Tryz.func134.trans (congrArg some (by kernel_rfl))
  f276 := Tryz.func282.trans (congrArg some (by kernel_rfl))
  f277 := Tryz.func293.trans (congrArg some (by kernel_rfl))
  t0 := Tryz.underlying0
  a0 := Tryz.isAgg0
  z0 := Tryz.sizeOf0
  v0 := Tryz.zeroValue0
  t3 := Tryz.underlying3
  a3 := Tryz.isAgg3
  z3 := Tryz.sizeOf3
  v3 := Tryz.zeroValue3
  t4 := Tryz.underlying4
  a4 := Tryz.isAgg4
  z4 := Tryz.sizeOf4
  v4 := Tryz.zeroValue4
  t5 := Tryz.underlying5
  a5 := Tryz.isAgg5
  z5 := Tryz.sizeOf5
  v5 := Tryz.zeroValue5
  t9 := Tryz.underlying9
  a9 := Tryz.isAgg9
  z9 := Tryz.sizeOf9
  v9 := Tryz.zeroValue9
  t20 := Tryz.underlying20
  a20 := Tryz.isAgg20
  z20 := Tryz.sizeOf20
  v20 := Tryz.zeroValue20
  t37 := Tryz.underlying62
  a37 := Tryz.isAgg62
  z37 := Tryz.sizeOf62
  v37 := Tryz.zeroValue62
  t46 := Tryz.underlying308
  a46 := Tryz.isAgg308
  z46 := Tryz.sizeOf308
  v46 := Tryz.zeroValue308
  t51 := Tryz.underlying22
  a51 := Tryz.isAgg22
  z51 := Tryz.sizeOf22
  v51 := Tryz.zeroValue22
  t53 := Tryz.underlying232
  a53 := Tryz.isAgg232
  z53 := Tryz.sizeOf232
  v53 := Tryz.zeroValue232
  t70 := Tryz.underlying282
  a70 := Tryz.isAgg282
  z70 := Tryz.sizeOf282
  v70 := Tryz.zeroValue282
  t72 := Tryz.underlying284
  a72 := Tryz.isAgg284
  z72 := Tryz.sizeOf284
  v72 := Tryz.zeroValue284
  t75 := Tryz.underlying53
  a75 := Tryz.isAgg53
  z75 := Tryz.sizeOf53
  v75 := Tryz.zeroValue53
  t76 := Tryz.underlying150
  a76 := Tryz.isAgg150
  z76 := Tryz.sizeOf150
  v76 := Tryz.zeroValue150
  t109 := Tryz.underlying309
  a109 := Tryz.isAgg309
  z109 := Tryz.sizeOf309
  v109 := Tryz.zeroValue309
  t127 := Tryz.underlying345
  a127 := Tryz.isAgg345
  z127 := Tryz.sizeOf345
  v127 := Tryz.zeroValue345
  t146 := Tryz.underlying353
  a146 := Tryz.isAgg353
  z146 := Tryz.sizeOf353
  v146 := Tryz.zeroValue353
  t148 := Tryz.underlying233
  a148 := Tryz.isAgg233
  z148 := Tryz.sizeOf233
  v148 := Tryz.zeroValue233
  t164 := Tryz.underlying257
  a164 := Tryz.isAgg257
  z164 := Tryz.sizeOf257
  v164 := Tryz.zeroValue257 }
theorem Tryz.Builder_Extra_105 : Builder.Extra Tryz.prog Tryz.lays105_ren := {
  sizeBuilder := by kernel_rfl
  liesBuilder := by kernel_rfl
  t5 := Tryz.underlying5
  a5 := Tryz.isAgg5
  z5 := Tryz.sizeOf5
  v5 := Tryz.zeroValue5
  infoByte := by kernel_rfl
  cellsByte := by kernel_rfl
  sizeByte := by kernel_rfl
  neB5 := by decide }
open Go.RowKit Go.Lib in
theorem Tryz.strings_Repeat (s:ByteArray) (c:Nat) (w:World) (hc:c≤9223372036854775807) (hlen:s.size*c≤140737488355328):
  Calls Tryz.prog 129 #[.string s,.int .i64 c] w fun e w'=>e=.returned (.string ⟨(Lib.repeatL s.data.toList c).toArray⟩)∧Below w.heap.size w w':=Any.strings_Repeat Tryz.lays105 Tryz.Builder_Extra_105 s c w hc hlen
open Go.RowKit in
theorem Tryz.Builder_WriteString_k (B b:Nat) (bs:List Value) (s:ByteArray) (w:World) (h:Lib.IsBuilderF 284 5 B b bs w) (hlen:bs.length+s.size≤140737488355328) (hBw:B≤w.heap.size):
  Calls Tryz.prog 180 #[.pointer (some ⟨b,0,none⟩),.string s] w fun e w'=>e=.returned (.tuple #[.int .i64 s.size,.nilIface])∧(Lib.BuilderAtF 284 5 B b (.pointer (some ⟨b,0,none⟩)) (bs++Lib.strCells s) w'∧Below B w w'∧Lib.OthersKept 5 (some b) w w'):=Any.Builder_WriteString_k {Tryz.lays105 with} Tryz.Builder_Extra_105 B b bs s w h hlen hBw
open Go.RowKit in
theorem Tryz.Builder_String_any_k (B b:Nat) (l:List UInt8) (w:World) (h:Lib.IsBuilderF 284 5 B b (Lib.byteCells l) w) (hBw:B≤w.heap.size):
  Calls Tryz.prog 184 #[.pointer (some ⟨b,0,none⟩)] w fun e w'=>e=.returned (.string ⟨l.toArray⟩)∧(Lib.IsBuilderF 284 5 B b (Lib.byteCells l) w'∧Below B w w'∧Lib.OthersKept 5 (some b) w w'):=Any.Builder_String_any_k {Tryz.lays105 with} Tryz.Builder_Extra_105 B b l w h hBw
def Tryz.cloneMap137_ren:Go.Shelf.Ren:=⟨fun|5=>137|7=>214|n=>n,fun|23=>146|25=>9|3=>36|4=>4|20=>20|n=>n,fun|n=>n⟩
theorem Tryz.cloneMap137 : Go.Proofs.SlLaysW.n5 Tryz.prog Tryz.cloneMap137_ren := {
  mixed := by kernel_rfl
  f5 := ⟨Tryz.f137.name, by decide, Tryz.func137.trans (congrArg some (by kernel_rfl))⟩
  f7 := Tryz.func214.trans (congrArg some (by kernel_rfl))
  t4 := Tryz.underlying4
  a4 := Tryz.isAgg4
  z4 := Tryz.sizeOf4
  v4 := Tryz.zeroValue4
  t20 := Tryz.underlying20
  a20 := Tryz.isAgg20
  z20 := Tryz.sizeOf20
  v20 := Tryz.zeroValue20
  t23 := Tryz.underlying146
  a23 := Tryz.isAgg146
  z23 := Tryz.sizeOf146
  v23 := Tryz.zeroValue146 }
def Tryz.cloneMap138_ren:Go.Shelf.Ren:=⟨fun|5=>138|7=>214|n=>n,fun|23=>138|25=>28|3=>9|4=>4|20=>20|n=>n,fun|n=>n⟩
theorem Tryz.cloneMap138 : Go.Proofs.SlLaysW.n5 Tryz.prog Tryz.cloneMap138_ren := {
  mixed := by kernel_rfl
  f5 := ⟨Tryz.f138.name, by decide, Tryz.func138.trans (congrArg some (by kernel_rfl))⟩
  f7 := Tryz.func214.trans (congrArg some (by kernel_rfl))
  t4 := Tryz.underlying4
  a4 := Tryz.isAgg4
  z4 := Tryz.sizeOf4
  v4 := Tryz.zeroValue4
  t20 := Tryz.underlying20
  a20 := Tryz.isAgg20
  z20 := Tryz.sizeOf20
  v20 := Tryz.zeroValue20
  t23 := Tryz.underlying138
  a23 := Tryz.isAgg138
  z23 := Tryz.sizeOf138
  v23 := Tryz.zeroValue138 }
def Tryz.deleteFunc_ren:Go.Shelf.Ren:=⟨fun|10=>144|6=>215|n=>n,fun|22=>84|23=>9|25=>243|3=>3|4=>4|0=>0|n=>n,fun|n=>n⟩
theorem Tryz.deleteFunc : Go.Proofs.SlLaysH.n10 Tryz.prog Tryz.deleteFunc_ren := {
  mixed := by kernel_rfl
  f6 := ⟨Tryz.f215.name, by decide, Tryz.func215.trans (congrArg some (by kernel_rfl))⟩
  f10 := ⟨Tryz.f144.name, by decide, Tryz.func144.trans (congrArg some (by kernel_rfl))⟩
  t0 := Tryz.underlying0
  a0 := Tryz.isAgg0
  z0 := Tryz.sizeOf0
  v0 := Tryz.zeroValue0
  t3 := Tryz.underlying3
  a3 := Tryz.isAgg3
  z3 := Tryz.sizeOf3
  v3 := Tryz.zeroValue3
  t4 := Tryz.underlying4
  a4 := Tryz.isAgg4
  z4 := Tryz.sizeOf4
  v4 := Tryz.zeroValue4
  t22 := Tryz.underlying84
  a22 := Tryz.isAgg84
  z22 := Tryz.sizeOf84
  v22 := Tryz.zeroValue84
  a23 := Tryz.isAgg9
  z23 := Tryz.sizeOf9
  t25 := Tryz.underlying243
  a25 := Tryz.isAgg243
  z25 := Tryz.sizeOf243
  v25 := Tryz.zeroValue243 }
def Tryz.cloneMap167_ren:Go.Shelf.Ren:=⟨fun|5=>167|7=>214|n=>n,fun|23=>157|25=>28|3=>170|4=>4|20=>20|n=>n,fun|n=>n⟩
theorem Tryz.cloneMap167 : Go.Proofs.SlLaysW.n5 Tryz.prog Tryz.cloneMap167_ren := {
  mixed := by kernel_rfl
  f5 := ⟨Tryz.f167.name, by decide, Tryz.func167.trans (congrArg some (by kernel_rfl))⟩
  f7 := Tryz.func214.trans (congrArg some (by kernel_rfl))
  t4 := Tryz.underlying4
  a4 := Tryz.isAgg4
  z4 := Tryz.sizeOf4
  v4 := Tryz.zeroValue4
  t20 := Tryz.underlying20
  a20 := Tryz.isAgg20
  z20 := Tryz.sizeOf20
  v20 := Tryz.zeroValue20
  t23 := Tryz.underlying157
  a23 := Tryz.isAgg157
  z23 := Tryz.sizeOf157
  v23 := Tryz.zeroValue157 }
end
end Go.Proofs
