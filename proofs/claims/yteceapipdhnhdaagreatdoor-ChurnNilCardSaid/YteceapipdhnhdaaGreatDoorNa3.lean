/- DERIVED: THE SHELF's CONTRACTS AT THIS DUMP, IN PLAIN WORDS  -/
import Derived.Shelf.Spec.SlicesGrow
import Derived.Test.YteceapipdhnhdaaGreatDoorProg
import Derived.Shelf.Bits.Mul64
import Derived.Ground.SlgnProg
import Derived.Ground.SlgfProg
import Derived.Ground.NamesProg
import Derived.Shelf.SlSortCmp.NoneTotal
import Derived.Shelf.SlSortCmp.WholeK
import Derived.Ground.SlsfProg
set_option linter.unusedVariables false
set_option linter.unusedSimpArgs false
namespace Go.Proofs
section
open Go.Shelf
def Tryz.growS_ren:Go.Shelf.Ren:=⟨fun|4=>291|n=>n,fun|22=>84|25=>9|3=>3|4=>4|9=>9|20=>20|0=>0|n=>n,fun|n=>n⟩
theorem Tryz.growS : Go.Proofs.Lays8.n4 Tryz.prog Tryz.growS_ren := {
  mixed := by kernel_rfl
  f4 := ⟨Tryz.f291.name, by decide, Tryz.func291.trans (congrArg some (by kernel_rfl))⟩
  t0 := Tryz.underlying0
  a0 := Tryz.isAgg0
  z0 := Tryz.sizeOf0
  v0 := Tryz.zeroValue0
  t3 := Tryz.underlying3
  a3 := Tryz.isAgg3
  z3 := Tryz.sizeOf3
  v3 := Tryz.zeroValue3
  t4 := Tryz.underlying4
  a4 := Tryz.isAgg4
  z4 := Tryz.sizeOf4
  v4 := Tryz.zeroValue4
  t9 := Tryz.underlying9
  a9 := Tryz.isAgg9
  z9 := Tryz.sizeOf9
  v9 := Tryz.zeroValue9
  t20 := Tryz.underlying20
  a20 := Tryz.isAgg20
  z20 := Tryz.sizeOf20
  v20 := Tryz.zeroValue20
  t22 := Tryz.underlying84
  a22 := Tryz.isAgg84
  z22 := Tryz.sizeOf84
  v22 := Tryz.zeroValue84 }
end
section
open Go.Shelf
def Tryz.lays264_ren:Go.Shelf.Ren:=⟨fun|264=>134|n=>n,fun|53=>232|46=>308|n=>n,fun|n=>n⟩
theorem Tryz.lays264 : Go.Proofs.Lays.n264 Tryz.prog Tryz.lays264_ren := {
  mixed := by kernel_rfl
  f264 := Tryz.func134.trans (congrArg some (by kernel_rfl))
  t46 := Tryz.underlying308
  a46 := Tryz.isAgg308
  z46 := Tryz.sizeOf308
  v46 := Tryz.zeroValue308
  t53 := Tryz.underlying232
  a53 := Tryz.isAgg232
  z53 := Tryz.sizeOf232
  v53 := Tryz.zeroValue232 }
open Go.RowKit Go.Lib in
theorem Tryz.bits_Mul64 (x y:Nat) (hx:x<18446744073709551616) (hy:y<18446744073709551616) (w:World):
  Calls Tryz.prog 134 #[.int .u64 x,.int .u64 y] w fun e w'=>e=.returned (.tuple #[.int .u64 ((x*y / 18446744073709551616:Nat):Int),.int .u64 ((x*y%18446744073709551616:Nat):Int)])∧w'=w:=Any.bits_Mul64 Tryz.lays264 x y hx hy w
end
section
open Go.Shelf
def Tryz.sortEntry_ren:Go.Shelf.Ren:=⟨fun|6=>241|15=>280|14=>279|28=>310|29=>266|20=>302|21=>303|22=>304|23=>305|24=>306|25=>307|26=>308|27=>309|46=>317|47=>318|48=>319|49=>320|50=>321|57=>326|n=>n,fun|22=>133|24=>278|25=>340|3=>3|39=>308|0=>0|53=>22|55=>232|4=>4|46=>380|45=>379|50=>215|5=>5|9=>9|66=>395|70=>399|76=>404|77=>163|n=>n,fun|n=>n⟩
theorem Tryz.sortEntry : Go.Proofs.SlLaysF0.n6 Tryz.prog Tryz.sortEntry_ren := {
  mixed := by kernel_rfl
  f6 := ⟨Tryz.f241.name, by decide, Tryz.func241.trans (congrArg some (by kernel_rfl))⟩
  f14 := ⟨Tryz.f279.name, by decide, Tryz.func279.trans (congrArg some (by kernel_rfl))⟩
  f15 := Tryz.func280.trans (congrArg some (by kernel_rfl))
  f20 := ⟨Tryz.f302.name, by decide, Tryz.func302.trans (congrArg some (by kernel_rfl))⟩
  f21 := ⟨Tryz.f303.name, by decide, Tryz.func303.trans (congrArg some (by kernel_rfl))⟩
  f22 := ⟨Tryz.f304.name, by decide, Tryz.func304.trans (congrArg some (by kernel_rfl))⟩
  f23 := ⟨Tryz.f305.name, by decide, Tryz.func305.trans (congrArg some (by kernel_rfl))⟩
  f24 := ⟨Tryz.f306.name, by decide, Tryz.func306.trans (congrArg some (by kernel_rfl))⟩
  f25 := ⟨Tryz.f307.name, by decide, Tryz.func307.trans (congrArg some (by kernel_rfl))⟩
  f26 := ⟨Tryz.f308.name, by decide, Tryz.func308.trans (congrArg some (by kernel_rfl))⟩
  f27 := ⟨Tryz.f309.name, by decide, Tryz.func309.trans (congrArg some (by kernel_rfl))⟩
  f28 := Tryz.func310.trans (congrArg some (by kernel_rfl))
  f29 := Tryz.func266.trans (congrArg some (by kernel_rfl))
  f46 := ⟨Tryz.f317.name, by decide, Tryz.func317.trans (congrArg some (by kernel_rfl))⟩
  f47 := Tryz.func318.trans (congrArg some (by kernel_rfl))
  f48 := Tryz.func319.trans (congrArg some (by kernel_rfl))
  f49 := ⟨Tryz.f320.name, by decide, Tryz.func320.trans (congrArg some (by kernel_rfl))⟩
  f50 := ⟨Tryz.f321.name, by decide, Tryz.func321.trans (congrArg some (by kernel_rfl))⟩
  f57 := ⟨Tryz.f326.name, by decide, Tryz.func326.trans (congrArg some (by kernel_rfl))⟩
  t0 := Tryz.underlying0
  a0 := Tryz.isAgg0
  z0 := Tryz.sizeOf0
  v0 := Tryz.zeroValue0
  t3 := Tryz.underlying3
  a3 := Tryz.isAgg3
  z3 := Tryz.sizeOf3
  v3 := Tryz.zeroValue3
  t4 := Tryz.underlying4
  a4 := Tryz.isAgg4
  z4 := Tryz.sizeOf4
  v4 := Tryz.zeroValue4
  t5 := Tryz.underlying5
  a5 := Tryz.isAgg5
  z5 := Tryz.sizeOf5
  v5 := Tryz.zeroValue5
  t9 := Tryz.underlying9
  a9 := Tryz.isAgg9
  z9 := Tryz.sizeOf9
  v9 := Tryz.zeroValue9
  t22 := Tryz.underlying133
  a22 := Tryz.isAgg133
  z22 := Tryz.sizeOf133
  v22 := Tryz.zeroValue133
  t25 := Tryz.underlying340
  a25 := Tryz.isAgg340
  z25 := Tryz.sizeOf340
  v25 := Tryz.zeroValue340
  t39 := Tryz.underlying308
  a39 := Tryz.isAgg308
  z39 := Tryz.sizeOf308
  v39 := Tryz.zeroValue308
  t45 := Tryz.underlying379
  a45 := Tryz.isAgg379
  z45 := Tryz.sizeOf379
  v45 := Tryz.zeroValue379
  t46 := Tryz.underlying380
  a46 := Tryz.isAgg380
  z46 := Tryz.sizeOf380
  v46 := Tryz.zeroValue380
  t50 := Tryz.underlying215
  a50 := Tryz.isAgg215
  z50 := Tryz.sizeOf215
  v50 := Tryz.zeroValue215
  t53 := Tryz.underlying22
  a53 := Tryz.isAgg22
  z53 := Tryz.sizeOf22
  v53 := Tryz.zeroValue22
  t55 := Tryz.underlying232
  a55 := Tryz.isAgg232
  z55 := Tryz.sizeOf232
  v55 := Tryz.zeroValue232
  t66 := Tryz.underlying395
  a66 := Tryz.isAgg395
  z66 := Tryz.sizeOf395
  v66 := Tryz.zeroValue395
  t70 := Tryz.underlying399
  a70 := Tryz.isAgg399
  z70 := Tryz.sizeOf399
  v70 := Tryz.zeroValue399
  t76 := Tryz.underlying404
  a76 := Tryz.isAgg404
  z76 := Tryz.sizeOf404
  v76 := Tryz.zeroValue404
  t77 := Tryz.underlying163
  a77 := Tryz.isAgg163
  z77 := Tryz.sizeOf163
  v77 := Tryz.zeroValue163 }
end
end Go.Proofs
