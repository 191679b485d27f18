/- A part of the proof: lemmas for the theorem of this claim, merged by a program of ours out of LySort. -/
import Derived.Shelf.SlLaysF
import Derived.Test.YtididbpiikfaiaaDoorProg
set_option linter.all false
section
namespace Go.Proofs
open Go.Shelf
def Tryd.laysSort_ren : Go.Shelf.Ren := ⟨fun | 6 => 63 | 15 => 75 | 14 => 74 | 28 => 85 | 29 => 86 | 20 => 77 | 21 => 78 | 22 => 79 | 23 => 80 | 24 => 81 | 25 => 82 | 26 => 83 | 27 => 84 | 46 => 88 | 47 => 89 | 48 => 90 | 49 => 91 | 50 => 92 | 57 => 93 | n => n, fun | 22 => 22 | 24 => 25 | 25 => 72 | 3 => 3 | 39 => 100 | 0 => 0 | 53 => 33 | 55 => 112 | 4 => 4 | 46 => 104 | 45 => 103 | 50 => 108 | 5 => 5 | 9 => 9 | 66 => 113 | 70 => 117 | 76 => 120 | 77 => 121 | n => n, fun | n => n⟩
theorem Tryd.laysSort : Go.Proofs.SlLaysF.n6 Tryd.prog Tryd.laysSort_ren := {
  mixed := by kernel_rfl
  f6 := ⟨Tryd.f63.name, by decide, Tryd.func63.trans (congrArg some (by kernel_rfl))⟩
  f14 := ⟨Tryd.f74.name, by decide, Tryd.func74.trans (congrArg some (by kernel_rfl))⟩
  f15 := Tryd.func75.trans (congrArg some (by kernel_rfl))
  f20 := ⟨Tryd.f77.name, by decide, Tryd.func77.trans (congrArg some (by kernel_rfl))⟩
  f21 := ⟨Tryd.f78.name, by decide, Tryd.func78.trans (congrArg some (by kernel_rfl))⟩
  f22 := ⟨Tryd.f79.name, by decide, Tryd.func79.trans (congrArg some (by kernel_rfl))⟩
  f23 := ⟨Tryd.f80.name, by decide, Tryd.func80.trans (congrArg some (by kernel_rfl))⟩
  f24 := ⟨Tryd.f81.name, by decide, Tryd.func81.trans (congrArg some (by kernel_rfl))⟩
  f25 := ⟨Tryd.f82.name, by decide, Tryd.func82.trans (congrArg some (by kernel_rfl))⟩
  f26 := ⟨Tryd.f83.name, by decide, Tryd.func83.trans (congrArg some (by kernel_rfl))⟩
  f27 := ⟨Tryd.f84.name, by decide, Tryd.func84.trans (congrArg some (by kernel_rfl))⟩
  f28 := Tryd.func85.trans (congrArg some (by kernel_rfl))
  f29 := Tryd.func86.trans (congrArg some (by kernel_rfl))
  f46 := ⟨Tryd.f88.name, by decide, Tryd.func88.trans (congrArg some (by kernel_rfl))⟩
  f47 := Tryd.func89.trans (congrArg some (by kernel_rfl))
  f48 := Tryd.func90.trans (congrArg some (by kernel_rfl))
  f49 := ⟨Tryd.f91.name, by decide, Tryd.func91.trans (congrArg some (by kernel_rfl))⟩
  f50 := ⟨Tryd.f92.name, by decide, Tryd.func92.trans (congrArg some (by kernel_rfl))⟩
  f57 := ⟨Tryd.f93.name, by decide, Tryd.func93.trans (congrArg some (by kernel_rfl))⟩
  t0 := Tryd.underlying0
  a0 := Tryd.isAgg0
  z0 := Tryd.sizeOf0
  v0 := Tryd.zeroValue0
  t3 := Tryd.underlying3
  a3 := Tryd.isAgg3
  z3 := Tryd.sizeOf3
  v3 := Tryd.zeroValue3
  t4 := Tryd.underlying4
  a4 := Tryd.isAgg4
  z4 := Tryd.sizeOf4
  v4 := Tryd.zeroValue4
  t5 := Tryd.underlying5
  a5 := Tryd.isAgg5
  z5 := Tryd.sizeOf5
  v5 := Tryd.zeroValue5
  t9 := Tryd.underlying9
  a9 := Tryd.isAgg9
  z9 := Tryd.sizeOf9
  v9 := Tryd.zeroValue9
  t22 := Tryd.underlying22
  a22 := Tryd.isAgg22
  z22 := Tryd.sizeOf22
  v22 := Tryd.zeroValue22
  a24 := Tryd.isAgg25
  z24 := Tryd.sizeOf25
  t25 := Tryd.underlying72
  a25 := Tryd.isAgg72
  z25 := Tryd.sizeOf72
  v25 := Tryd.zeroValue72
  t39 := Tryd.underlying100
  a39 := Tryd.isAgg100
  z39 := Tryd.sizeOf100
  v39 := Tryd.zeroValue100
  t45 := Tryd.underlying103
  a45 := Tryd.isAgg103
  z45 := Tryd.sizeOf103
  v45 := Tryd.zeroValue103
  t46 := Tryd.underlying104
  a46 := Tryd.isAgg104
  z46 := Tryd.sizeOf104
  v46 := Tryd.zeroValue104
  t50 := Tryd.underlying108
  a50 := Tryd.isAgg108
  z50 := Tryd.sizeOf108
  v50 := Tryd.zeroValue108
  t53 := Tryd.underlying33
  a53 := Tryd.isAgg33
  z53 := Tryd.sizeOf33
  v53 := Tryd.zeroValue33
  t55 := Tryd.underlying112
  a55 := Tryd.isAgg112
  z55 := Tryd.sizeOf112
  v55 := Tryd.zeroValue112
  t66 := Tryd.underlying113
  a66 := Tryd.isAgg113
  z66 := Tryd.sizeOf113
  v66 := Tryd.zeroValue113
  t70 := Tryd.underlying117
  a70 := Tryd.isAgg117
  z70 := Tryd.sizeOf117
  v70 := Tryd.zeroValue117
  t76 := Tryd.underlying120
  a76 := Tryd.isAgg120
  z76 := Tryd.sizeOf120
  v76 := Tryd.zeroValue120
  t77 := Tryd.underlying121
  a77 := Tryd.isAgg121
  z77 := Tryd.sizeOf121
  v77 := Tryd.zeroValue121 }
end Go.Proofs
end
