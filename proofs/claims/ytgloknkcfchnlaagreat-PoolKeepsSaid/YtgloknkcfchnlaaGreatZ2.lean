/- DERIVED: THE SHELF's CONTRACTS AT THIS DUMP, IN PLAIN WORDS  -/
import Derived.Shelf.Strings.Builder1
import Derived.Shelf.Strings.Builder2
import Derived.Shelf.Small.Strs
import Derived.Shelf.Strings.BuilderF
import Derived.Shelf.Strings.BuilderK
import Derived.Shelf.Strings.Prefix
import Derived.Shelf.Bits.Mul64
import Derived.Shelf.Strings.Repeat
import Derived.Ground.SlgnProg
import Derived.Ground.SlgfProg
import Derived.Test.YtgloknkcfchnlaaGreatProg
import Derived.Ground.SlmcProg
import Derived.Shelf.SlMaps.Clone
import Derived.Shelf.SlicesE.DeleteFunc
set_option linter.unusedVariables false
set_option linter.unusedSimpArgs false
namespace Go.Proofs
section
open Go.Shelf
def Tryz.lays106_ren:Go.Shelf.Ren:=⟨fun|106=>224|213=>248|265=>257|n=>n,fun|9=>9|3=>3|n=>n,fun|n=>n⟩
theorem Tryz.lays106 : Go.Proofs.Lays.n106 Tryz.prog Tryz.lays106_ren := {
  mixed := by kernel_rfl
  f106 := Tryz.func224.trans (congrArg some (by kernel_rfl))
  f213 := Tryz.func248.trans (congrArg some (by kernel_rfl))
  f265 := Tryz.func257.trans (congrArg some (by kernel_rfl))
  t3 := Tryz.underlying3
  a3 := Tryz.isAgg3
  z3 := Tryz.sizeOf3
  v3 := Tryz.zeroValue3
  t9 := Tryz.underlying9
  a9 := Tryz.isAgg9
  z9 := Tryz.sizeOf9
  v9 := Tryz.zeroValue9 }
open Go.RowKit in
theorem Tryz.strings_Compare (a b:ByteArray) (w:World):
  Calls Tryz.prog 224 #[.string a,.string b] w fun e w'=>e=.returned (.int .i64 (Lib.compareBytes a.data.toList b.data.toList))∧w'=w:=Any.strings_Compare Tryz.lays106 a b w
def Tryz.lays105_ren:Go.Shelf.Ren:=⟨fun|105=>137|212=>186|99=>187|165=>188|166=>167|170=>189|169=>171|263=>226|264=>198|206=>227|240=>209|241=>228|276=>240|277=>250|n=>n,fun|9=>9|3=>3|4=>4|20=>20|0=>0|46=>283|109=>284|5=>5|72=>264|76=>140|51=>24|146=>313|53=>265|148=>292|70=>262|37=>37|75=>43|127=>299|164=>320|80=>269|n=>n,fun|n=>n⟩
theorem Tryz.lays105 : Go.Proofs.Lays.n105 Tryz.prog Tryz.lays105_ren := {
  mixed := by kernel_rfl
  f99 := Tryz.func187.trans (congrArg some (by kernel_rfl))
  f105 := Tryz.func137.trans (congrArg some (by kernel_rfl))
  f165 := Tryz.func188.trans (congrArg some (by kernel_rfl))
  f166 := Tryz.func167.trans (congrArg some (by kernel_rfl))
  f169 := Tryz.func171.trans (congrArg some (by kernel_rfl))
  f170 := Tryz.func189.trans (congrArg some (by kernel_rfl))
  f206 := Tryz.func227.trans (congrArg some (by kernel_rfl))
  f212 := Tryz.func186.trans (congrArg some (by kernel_rfl))
  f240 := Tryz.func209.trans (congrArg some (by kernel_rfl))
  f241 := Tryz.func228.trans (congrArg some (by kernel_rfl))
  f263 := Tryz.func226.trans (congrArg some (by kernel_rfl))
  f264 := Tryz.func198.trans (congrArg some (by kernel_rfl))
  f276 := Tryz.func240.trans (congrArg some (by kernel_rfl))
  f277 := Tryz.func250.trans (congrArg some (by kernel_rfl))
  t0 := Tryz.underlying0
  a0 := Tryz.isAgg0
  z0 := Tryz.sizeOf0
  v0 := Tryz.zeroValue0
  t3 := Tryz.underlying3
  a3 := Tryz.isAgg3
  z3 := Tryz.sizeOf3
  v3 := Tryz.zeroValue3
  t4 := Tryz.underlying4
  a4 := Tryz.isAgg4
  z4 := Tryz.sizeOf4
  v4 := Tryz.zeroValue4
  t5 := Tryz.underlying5
  a5 := Tryz.isAgg5
  z5 := Tryz.sizeOf5
  v5 := Tryz.zeroValue5
  t9 := Tryz.underlying9
  a9 := Tryz.isAgg9
  z9 := Tryz.sizeOf9
  v9 := Tryz.zeroValue9
  t20 := Tryz.underlying20
  a20 := Tryz.isAgg20
  z20 := Tryz.sizeOf20
  v20 := Tryz.zeroValue20
  t37 := Tryz.underlying37
  a37 := Tryz.isAgg37
  z37 := Tryz.sizeOf37
  v37 := Tryz.zeroValue37
  t46 := Tryz.underlying283
  a46 := Tryz.isAgg283
  z46 := Tryz.sizeOf283
  v46 := Tryz.zeroValue283
  t51 := Tryz.underlying24
  a51 := Tryz.isAgg24
  z51 := Tryz.sizeOf24
  v51 := Tryz.zeroValue24
  t53 := Tryz.underlying265
  a53 := Tryz.isAgg265
  z53 := Tryz.sizeOf265
  v53 := Tryz.zeroValue265
  t70 := Tryz.underlying262
  a70 := Tryz.isAgg262
  z70 := Tryz.sizeOf262
  v70 := Tryz.zeroValue262
  t72 := Tryz.underlying264
  a72 := Tryz.isAgg264
  z72 := Tryz.sizeOf264
  v72 := Tryz.zeroValue264
  t75 := Tryz.underlying43
  a75 := Tryz.isAgg43
  z75 := Tryz.sizeOf43
  v75 := Tryz.zeroValue43
  t76 := Tryz.underlying140
  a76 := Tryz.isAgg140
  z76 := Tryz.sizeOf140
  v76 := Tryz.zeroValue140
  t109 := Tryz.underlying284
  a109 := Tryz.isAgg284
  z109 := Tryz.sizeOf284
  v109 := Tryz.zeroValue284
  t127 := Tryz.underlying299
  a127 := Tryz.isAgg299
  z127 := Tryz.sizeOf299
  v127 := Tryz.zeroValue299
  t146 := Tryz.underlying313
  a146 := Tryz.isAgg313
  z146 := Tryz.sizeOf313
  v146 := Tryz.zeroValue313
  t148 := Tryz.underlying292
  a148 := Tryz.isAgg292
  z148 := Tryz.sizeOf292
  v148 := Tryz.zeroValue292
  t164 := Tryz.underlying320
  a164 := Tryz.isAgg320
  z164 := Tryz.sizeOf320
  v164 := Tryz.zeroValue320 }
theorem Tryz.Builder_Extra_105 : Builder.Extra Tryz.prog Tryz.lays105_ren := {
  sizeBuilder := by kernel_rfl
  liesBuilder := by kernel_rfl
  t5 := Tryz.underlying5
  a5 := Tryz.isAgg5
  z5 := Tryz.sizeOf5
  v5 := Tryz.zeroValue5
  infoByte := by kernel_rfl
  cellsByte := by kernel_rfl
  sizeByte := by kernel_rfl
  neB5 := by decide }
open Go.RowKit Go.Lib in
theorem Tryz.strings_Repeat (s:ByteArray) (c:Nat) (w:World) (hc:c≤9223372036854775807) (hlen:s.size*c≤140737488355328):
  Calls Tryz.prog 137 #[.string s,.int .i64 c] w fun e w'=>e=.returned (.string ⟨(Lib.repeatL s.data.toList c).toArray⟩)∧Below w.heap.size w w':=Any.strings_Repeat Tryz.lays105 Tryz.Builder_Extra_105 s c w hc hlen
open Go.RowKit in
theorem Tryz.Builder_WriteString_k (B b:Nat) (bs:List Value) (s:ByteArray) (w:World) (h:Lib.IsBuilderF 264 5 B b bs w) (hlen:bs.length+s.size≤140737488355328) (hBw:B≤w.heap.size):
  Calls Tryz.prog 167 #[.pointer (some ⟨b,0,none⟩),.string s] w fun e w'=>e=.returned (.tuple #[.int .i64 s.size,.nilIface])∧(Lib.BuilderAtF 264 5 B b (.pointer (some ⟨b,0,none⟩)) (bs++Lib.strCells s) w'∧Below B w w'∧Lib.OthersKept 5 (some b) w w'):=Any.Builder_WriteString_k {Tryz.lays105 with} Tryz.Builder_Extra_105 B b bs s w h hlen hBw
open Go.RowKit in
theorem Tryz.Builder_String_any_k (B b:Nat) (l:List UInt8) (w:World) (h:Lib.IsBuilderF 264 5 B b (Lib.byteCells l) w) (hBw:B≤w.heap.size):
  Calls Tryz.prog 171 #[.pointer (some ⟨b,0,none⟩)] w fun e w'=>e=.returned (.string ⟨l.toArray⟩)∧(Lib.IsBuilderF 264 5 B b (Lib.byteCells l) w'∧Below B w w'∧Lib.OthersKept 5 (some b) w w'):=Any.Builder_String_any_k {Tryz.lays105 with} Tryz.Builder_Extra_105 B b l w h hBw
def Tryz.cloneMap68_ren:Go.Shelf.Ren:=⟨fun|5=>68|7=>124|n=>n,fun|23=>134|25=>9|3=>65|4=>4|20=>20|n=>n,fun|n=>n⟩
theorem Tryz.cloneMap68 : Go.Proofs.SlLaysW.n5 Tryz.prog Tryz.cloneMap68_ren := {
  mixed := by kernel_rfl
  f5 := ⟨Tryz.f68.name, by decide, Tryz.func68.trans (congrArg some (by kernel_rfl))⟩
  f7 := Tryz.func124.trans (congrArg some (by kernel_rfl))
  t4 := Tryz.underlying4
  a4 := Tryz.isAgg4
  z4 := Tryz.sizeOf4
  v4 := Tryz.zeroValue4
  t20 := Tryz.underlying20
  a20 := Tryz.isAgg20
  z20 := Tryz.sizeOf20
  v20 := Tryz.zeroValue20
  t23 := Tryz.underlying134
  a23 := Tryz.isAgg134
  z23 := Tryz.sizeOf134
  v23 := Tryz.zeroValue134 }
def Tryz.cloneMap70_ren:Go.Shelf.Ren:=⟨fun|5=>70|7=>124|n=>n,fun|23=>135|25=>26|3=>9|4=>4|20=>20|n=>n,fun|n=>n⟩
theorem Tryz.cloneMap70 : Go.Proofs.SlLaysW.n5 Tryz.prog Tryz.cloneMap70_ren := {
  mixed := by kernel_rfl
  f5 := ⟨Tryz.f70.name, by decide, Tryz.func70.trans (congrArg some (by kernel_rfl))⟩
  f7 := Tryz.func124.trans (congrArg some (by kernel_rfl))
  t4 := Tryz.underlying4
  a4 := Tryz.isAgg4
  z4 := Tryz.sizeOf4
  v4 := Tryz.zeroValue4
  t20 := Tryz.underlying20
  a20 := Tryz.isAgg20
  z20 := Tryz.sizeOf20
  v20 := Tryz.zeroValue20
  t23 := Tryz.underlying135
  a23 := Tryz.isAgg135
  z23 := Tryz.sizeOf135
  v23 := Tryz.zeroValue135 }
def Tryz.deleteFunc_ren:Go.Shelf.Ren:=⟨fun|10=>119|6=>156|n=>n,fun|22=>41|23=>9|25=>212|3=>3|4=>4|0=>0|n=>n,fun|n=>n⟩
theorem Tryz.deleteFunc : Go.Proofs.SlLaysH.n10 Tryz.prog Tryz.deleteFunc_ren := {
  mixed := by kernel_rfl
  f6 := ⟨Tryz.f156.name, by decide, Tryz.func156.trans (congrArg some (by kernel_rfl))⟩
  f10 := ⟨Tryz.f119.name, by decide, Tryz.func119.trans (congrArg some (by kernel_rfl))⟩
  t0 := Tryz.underlying0
  a0 := Tryz.isAgg0
  z0 := Tryz.sizeOf0
  v0 := Tryz.zeroValue0
  t3 := Tryz.underlying3
  a3 := Tryz.isAgg3
  z3 := Tryz.sizeOf3
  v3 := Tryz.zeroValue3
  t4 := Tryz.underlying4
  a4 := Tryz.isAgg4
  z4 := Tryz.sizeOf4
  v4 := Tryz.zeroValue4
  t22 := Tryz.underlying41
  a22 := Tryz.isAgg41
  z22 := Tryz.sizeOf41
  v22 := Tryz.zeroValue41
  a23 := Tryz.isAgg9
  z23 := Tryz.sizeOf9
  t25 := Tryz.underlying212
  a25 := Tryz.isAgg212
  z25 := Tryz.sizeOf212
  v25 := Tryz.zeroValue212 }
def Tryz.cloneMap179_ren:Go.Shelf.Ren:=⟨fun|5=>179|7=>124|n=>n,fun|23=>154|25=>26|3=>58|4=>4|20=>20|n=>n,fun|n=>n⟩
theorem Tryz.cloneMap179 : Go.Proofs.SlLaysW.n5 Tryz.prog Tryz.cloneMap179_ren := {
  mixed := by kernel_rfl
  f5 := ⟨Tryz.f179.name, by decide, Tryz.func179.trans (congrArg some (by kernel_rfl))⟩
  f7 := Tryz.func124.trans (congrArg some (by kernel_rfl))
  t4 := Tryz.underlying4
  a4 := Tryz.isAgg4
  z4 := Tryz.sizeOf4
  v4 := Tryz.zeroValue4
  t20 := Tryz.underlying20
  a20 := Tryz.isAgg20
  z20 := Tryz.sizeOf20
  v20 := Tryz.zeroValue20
  t23 := Tryz.underlying154
  a23 := Tryz.isAgg154
  z23 := Tryz.sizeOf154
  v23 := Tryz.zeroValue154 }
end
end Go.Proofs
