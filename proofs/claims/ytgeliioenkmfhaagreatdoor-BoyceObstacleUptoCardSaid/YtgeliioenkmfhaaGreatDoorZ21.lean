/- A part of the proof: lemmas for the theorem of this claim, merged by a program of ours out of LySort. -/
import Derived.Shelf.SlLaysF
import Derived.Test.YtgeliioenkmfhaaGreatDoorProg
set_option linter.all false
section
namespace Go.Proofs
open Go.Shelf
def Tryz.laysSort_ren : Go.Shelf.Ren := ⟨fun | 6 => 83 | 15 => 94 | 14 => 93 | 28 => 108 | 29 => 109 | 20 => 100 | 21 => 101 | 22 => 102 | 23 => 103 | 24 => 104 | 25 => 105 | 26 => 106 | 27 => 107 | 46 => 112 | 47 => 113 | 48 => 114 | 49 => 115 | 50 => 116 | 57 => 117 | n => n, fun | 22 => 36 | 24 => 30 | 25 => 97 | 3 => 3 | 39 => 73 | 0 => 0 | 53 => 29 | 55 => 87 | 4 => 4 | 46 => 109 | 45 => 108 | 50 => 113 | 5 => 5 | 9 => 9 | 66 => 117 | 70 => 121 | 76 => 123 | 77 => 124 | n => n, fun | n => n⟩
theorem Tryz.laysSort : Go.Proofs.SlLaysF.n6 Tryz.prog Tryz.laysSort_ren := {
  mixed := by kernel_rfl
  f6 := ⟨Tryz.f83.name, by decide, Tryz.func83.trans (congrArg some (by kernel_rfl))⟩
  f14 := ⟨Tryz.f93.name, by decide, Tryz.func93.trans (congrArg some (by kernel_rfl))⟩
  f15 := Tryz.func94.trans (congrArg some (by kernel_rfl))
  f20 := ⟨Tryz.f100.name, by decide, Tryz.func100.trans (congrArg some (by kernel_rfl))⟩
  f21 := ⟨Tryz.f101.name, by decide, Tryz.func101.trans (congrArg some (by kernel_rfl))⟩
  f22 := ⟨Tryz.f102.name, by decide, Tryz.func102.trans (congrArg some (by kernel_rfl))⟩
  f23 := ⟨Tryz.f103.name, by decide, Tryz.func103.trans (congrArg some (by kernel_rfl))⟩
  f24 := ⟨Tryz.f104.name, by decide, Tryz.func104.trans (congrArg some (by kernel_rfl))⟩
  f25 := ⟨Tryz.f105.name, by decide, Tryz.func105.trans (congrArg some (by kernel_rfl))⟩
  f26 := ⟨Tryz.f106.name, by decide, Tryz.func106.trans (congrArg some (by kernel_rfl))⟩
  f27 := ⟨Tryz.f107.name, by decide, Tryz.func107.trans (congrArg some (by kernel_rfl))⟩
  f28 := Tryz.func108.trans (congrArg some (by kernel_rfl))
  f29 := Tryz.func109.trans (congrArg some (by kernel_rfl))
  f46 := ⟨Tryz.f112.name, by decide, Tryz.func112.trans (congrArg some (by kernel_rfl))⟩
  f47 := Tryz.func113.trans (congrArg some (by kernel_rfl))
  f48 := Tryz.func114.trans (congrArg some (by kernel_rfl))
  f49 := ⟨Tryz.f115.name, by decide, Tryz.func115.trans (congrArg some (by kernel_rfl))⟩
  f50 := ⟨Tryz.f116.name, by decide, Tryz.func116.trans (congrArg some (by kernel_rfl))⟩
  f57 := ⟨Tryz.f117.name, by decide, Tryz.func117.trans (congrArg some (by kernel_rfl))⟩
  t0 := Tryz.underlying0
  a0 := Tryz.isAgg0
  z0 := Tryz.sizeOf0
  v0 := Tryz.zeroValue0
  t3 := Tryz.underlying3
  a3 := Tryz.isAgg3
  z3 := Tryz.sizeOf3
  v3 := Tryz.zeroValue3
  t4 := Tryz.underlying4
  a4 := Tryz.isAgg4
  z4 := Tryz.sizeOf4
  v4 := Tryz.zeroValue4
  t5 := Tryz.underlying5
  a5 := Tryz.isAgg5
  z5 := Tryz.sizeOf5
  v5 := Tryz.zeroValue5
  t9 := Tryz.underlying9
  a9 := Tryz.isAgg9
  z9 := Tryz.sizeOf9
  v9 := Tryz.zeroValue9
  t22 := Tryz.underlying36
  a22 := Tryz.isAgg36
  z22 := Tryz.sizeOf36
  v22 := Tryz.zeroValue36
  a24 := Tryz.isAgg30
  z24 := Tryz.sizeOf30
  t25 := Tryz.underlying97
  a25 := Tryz.isAgg97
  z25 := Tryz.sizeOf97
  v25 := Tryz.zeroValue97
  t39 := Tryz.underlying73
  a39 := Tryz.isAgg73
  z39 := Tryz.sizeOf73
  v39 := Tryz.zeroValue73
  t45 := Tryz.underlying108
  a45 := Tryz.isAgg108
  z45 := Tryz.sizeOf108
  v45 := Tryz.zeroValue108
  t46 := Tryz.underlying109
  a46 := Tryz.isAgg109
  z46 := Tryz.sizeOf109
  v46 := Tryz.zeroValue109
  t50 := Tryz.underlying113
  a50 := Tryz.isAgg113
  z50 := Tryz.sizeOf113
  v50 := Tryz.zeroValue113
  t53 := Tryz.underlying29
  a53 := Tryz.isAgg29
  z53 := Tryz.sizeOf29
  v53 := Tryz.zeroValue29
  t55 := Tryz.underlying87
  a55 := Tryz.isAgg87
  z55 := Tryz.sizeOf87
  v55 := Tryz.zeroValue87
  t66 := Tryz.underlying117
  a66 := Tryz.isAgg117
  z66 := Tryz.sizeOf117
  v66 := Tryz.zeroValue117
  t70 := Tryz.underlying121
  a70 := Tryz.isAgg121
  z70 := Tryz.sizeOf121
  v70 := Tryz.zeroValue121
  t76 := Tryz.underlying123
  a76 := Tryz.isAgg123
  z76 := Tryz.sizeOf123
  v76 := Tryz.zeroValue123
  t77 := Tryz.underlying124
  a77 := Tryz.isAgg124
  z77 := Tryz.sizeOf124
  v77 := Tryz.zeroValue124 }
end Go.Proofs
end
