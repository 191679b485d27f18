/- A part of the proof: HxEnv Hx19 Hx23 Cs1 Cs3. -/
import Derived.Deep.AppendLies
import Derived.Laws.CopyRow
import Derived.Shelf.Spec.SlicesInsertGrow
import Derived.Test.YtidophngianjiaaGreatDoorProg
import Derived.Test.YtidophngianjiaaGreatDoor10x14
set_option linter.all false
section
namespace Go.Hx
open Go.Proofs
def a94 : List (Option TI) := [
 none,
 some ⟨.func, 1, 8, some [.nilFunc], false, false, true⟩,
 some ⟨.int .i64, 1, 8, some [.int .i64 0], false, false, true⟩,
 some ⟨.int .i64, 1, 8, some [.int .i64 0], false, false, true⟩,
 some ⟨.bool, 1, 1, some [.bool false], false, false, true⟩,
 some ⟨.int .u8, 1, 1, some [.int .u8 0], false, false, true⟩,
 some ⟨.int .u8, 1, 1, some [.int .u8 0], false, false, true⟩,
 some ⟨.struct [(0, 2, false), (1, 3, false), (2, 4, false), (3, 6, false)], 4, 24, some [.int .i64 0, .int .i64 0, .bool false, .int .u8 0], false, false, false⟩,
 some ⟨.struct [(0, 2, false), (1, 3, false), (2, 4, false), (3, 6, false)], 4, 24, some [.int .i64 0, .int .i64 0, .bool false, .int .u8 0], false, false, false⟩,
 some ⟨.string, 1, 16, some [.string ⟨#[]⟩], false, false, true⟩,
 some ⟨.string, 1, 16, some [.string ⟨#[]⟩], false, false, true⟩,
 some ⟨.string, 1, 16, some [.string ⟨#[]⟩], false, false, true⟩,
 some ⟨.int .u64, 1, 8, some [.int .u64 0], false, false, true⟩,
 none,
 none,
 some ⟨.pointer 240, 1, 8, some [.pointer none], false, false, true⟩,
 some ⟨.pointer 243, 1, 8, some [.pointer none], false, false, true⟩,
 some ⟨.pointer 252, 1, 8, some [.pointer none], false, false, true⟩,
 none,
 none,
 none,
 some ⟨.int .i32, 1, 4, some [.int .i32 0], false, false, true⟩,
 some ⟨.slice 136, 1, 24, some [.slice none 0 0], false, false, true⟩,
 some ⟨.struct [(0, 5, false), (1, 22, false)], 2, 32, some [.int .u8 0, .slice none 0 0], false, false, false⟩,
 some ⟨.struct [(0, 5, false), (1, 22, false)], 2, 32, some [.int .u8 0, .slice none 0 0], false, false, false⟩,
 some ⟨.struct [(0, 24, false), (2, 22, false)], 3, 56, some [.int .u8 0, .slice none 0 0, .slice none 0 0], false, false, false⟩,
 some ⟨.struct [(0, 24, false), (2, 22, false)], 3, 56, some [.int .u8 0, .slice none 0 0, .slice none 0 0], false, false, false⟩,
 some ⟨.slice 40, 1, 24, some [.slice none 0 0], false, false, true⟩,
 some ⟨.slice 42, 1, 24, some [.slice none 0 0], false, false, true⟩,
 none,
 none,
 none,
 some ⟨.slice 38, 1, 24, some [.slice none 0 0], false, false, true⟩,
 some ⟨.int .i64, 1, 8, some [.int .i64 0], false, false, true⟩,
 none,
 none,
 none,
 some ⟨.int .u32, 1, 4, some [.int .u32 0], false, false, true⟩,
 some ⟨.int .u32, 1, 4, some [.int .u32 0], false, false, true⟩,
 some ⟨.struct [(0, 38, false), (1, 38, false)], 2, 8, some [.int .u32 0, .int .u32 0], false, false, false⟩,
 some ⟨.struct [(0, 38, false), (1, 38, false)], 2, 8, some [.int .u32 0, .int .u32 0], false, false, false⟩,
 none,
 some ⟨.struct [(0, 38, false), (1, 38, false)], 2, 8, some [.int .u32 0, .int .u32 0], false, false, false⟩,
 none,
 some ⟨.func, 1, 8, some [.nilFunc], false, false, true⟩,
 none,
 none,
 none,
 some ⟨.func, 1, 8, some [.nilFunc], false, false, true⟩,
 some ⟨.slice 5, 1, 24, some [.slice none 0 0], false, false, true⟩,
 none,
 none,
 none,
 none,
 some ⟨.array 2 38, 2, 8, some [.int .u32 0, .int .u32 0], false, false, false⟩,
 none,
 some ⟨.func, 1, 8, some [.nilFunc], false, false, true⟩,
 none,
 none,
 none,
 none,
 none,
 none,
 none,
 none,
 none,
 none,
 none,
 none,
 none,
 none,
 none,
 none,
 none,
 none,
 none,
 some ⟨.slice 155, 1, 24, some [.slice none 0 0], false, false, true⟩,
 none,
 none,
 none,
 none,
 none,
 none,
 none,
 none,
 none,
 none,
 none,
 none,
 none,
 none,
 none,
 none,
 none,
 none,
 some ⟨.func, 1, 8, some [.nilFunc], false, false, true⟩,
 none,
 none,
 some ⟨.func, 1, 8, some [.nilFunc], false, false, true⟩,
 none,
 none,
 none,
 none,
 none,
 none,
 none,
 none,
 some ⟨.func, 1, 8, some [.nilFunc], false, false, true⟩,
 none,
 none,
 none,
 none,
 none,
 none,
 some ⟨.slice 120, 1, 24, some [.slice none 0 0], false, false, true⟩,
 none,
 none,
 none,
 some ⟨.slice 121, 1, 24, some [.slice none 0 0], false, false, true⟩,
 some ⟨.struct [(0, 3, false), (1, 118, false)], 2, 32, some [.int .i64 0, .slice none 0 0], false, false, false⟩,
 some ⟨.struct [(0, 3, false), (1, 118, false)], 2, 32, some [.int .i64 0, .slice none 0 0], false, false, false⟩,
 some ⟨.slice 3, 1, 24, some [.slice none 0 0], false, false, true⟩,
 none,
 none,
 none,
 none,
 none,
 none,
 none,
 none,
 none,
 none,
 some ⟨.func, 1, 8, some [.nilFunc], false, false, true⟩,
 none,
 some ⟨.func, 1, 8, some [.nilFunc], false, false, true⟩,
 some ⟨.struct [(0, 5, false), (1, 5, false)], 2, 2, some [.int .u8 0, .int .u8 0], false, false, false⟩,
 some ⟨.struct [(0, 5, false), (1, 5, false)], 2, 2, some [.int .u8 0, .int .u8 0], false, false, false⟩,
 some ⟨.int .u64, 1, 8, some [.int .u64 0], false, false, true⟩,
 none,
 none,
 none,
 none,
 none,
 none,
 none,
 none,
 none,
 none,
 none,
 none,
 none,
 none,
 none,
 none,
 some ⟨.struct [(0, 4, false), (1, 3, false), (2, 3, false), (3, 3, false)], 4, 32, some [.bool false, .int .i64 0, .int .i64 0, .int .i64 0], false, false, false⟩,
 some ⟨.struct [(0, 4, false), (1, 3, false), (2, 3, false), (3, 3, false)], 4, 32, some [.bool false, .int .i64 0, .int .i64 0, .int .i64 0], false, false, false⟩,
 some ⟨.func, 1, 8, some [.nilFunc], false, false, true⟩,
 none,
 some ⟨.func, 1, 8, some [.nilFunc], false, false, true⟩,
 some ⟨.int .u64, 1, 8, some [.int .u64 0], false, false, true⟩,
 none,
 some ⟨.struct [(0, 32, false)], 1, 24, some [.slice none 0 0], false, false, false⟩,
 some ⟨.struct [(0, 32, false)], 1, 24, some [.slice none 0 0], false, false, false⟩,
 none,
 none,
 none,
 none,
 none,
 none,
 none,
 none,
 none,
 none,
 some ⟨.slice 4, 1, 24, some [.slice none 0 0], false, false, true⟩,
 none,
 none,
 none,
 some ⟨.map 38 38, 1, 8, some [.map none], false, false, true⟩,
 none,
 none,
 none,
 none,
 none,
 none,
 none,
 none,
 none,
 none,
 none,
 none,
 none,
 some ⟨.int .i64, 1, 8, some [.int .i64 0], false, false, true⟩,
 none,
 none,
 none,
 none,
 none,
 none,
 some ⟨.func, 1, 8, some [.nilFunc], false, false, true⟩,
 none,
 none,
 none,
 none,
 none,
 none,
 none,
 some ⟨.func, 1, 8, some [.nilFunc], false, false, true⟩,
 none,
 none,
 none,
 none,
 some ⟨.pointer 162, 1, 8, some [.pointer none], false, false, true⟩,
 none,
 some ⟨.array 32 5, 32, 32, some [.int .u8 0, .int .u8 0, .int .u8 0, .int .u8 0, .int .u8 0, .int .u8 0, .int .u8 0, .int .u8 0, .int .u8 0, .int .u8 0, .int .u8 0, .int .u8 0, .int .u8 0, .int .u8 0, .int .u8 0, .int .u8 0, .int .u8 0, .int .u8 0, .int .u8 0, .int .u8 0, .int .u8 0, .int .u8 0, .int .u8 0, .int .u8 0, .int .u8 0, .int .u8 0, .int .u8 0, .int .u8 0, .int .u8 0, .int .u8 0, .int .u8 0, .int .u8 0], false, false, false⟩,
 some ⟨.int .u64, 1, 8, some [.int .u64 0], false, false, true⟩,
 none,
 none,
 none,
 some ⟨.pointer 3, 1, 8, some [.pointer none], false, false, true⟩,
 none,
 none,
 none,
 none,
 none,
 some ⟨.pointer 214, 1, 8, some [.pointer none], false, false, true⟩,
 none,
 none,
 none,
 some ⟨.slice 27, 1, 24, some [.slice none 0 0], false, false, true⟩,
 none,
 none,
 none,
 none,
 none,
 none,
 none,
 none,
 none,
 none,
 none,
 none,
 some ⟨.array 0 16, 0, 0, some [], false, false, false⟩,
 none,
 none,
 none,
 some ⟨.int .u8, 1, 1, some [.int .u8 0], false, false, true⟩,
 some ⟨.int .u8, 1, 1, some [.int .u8 0], false, false, true⟩,
 some ⟨.func, 1, 8, some [.nilFunc], false, false, true⟩,
 some ⟨.pointer 5, 1, 8, some [.pointer none], false, false, true⟩,
 some ⟨.int .i32, 1, 4, some [.int .i32 0], false, false, true⟩,
 some ⟨.int .i32, 1, 4, some [.int .i32 0], false, false, true⟩,
 none,
 none,
 none]
def a1k : List (Option TI) → Nat → Option TI
 | [], _ => none
 | x :: _, 0 => x
 | _ :: r, n + 1 => a1k r n
def bm : Env := a1k a94
def agu (P : Program) : List (Option TI) → Nat → Prop
 | [], _ => True
 | none :: r, n => agu P r (n + 1)
 | some i :: r, n => bj P n = some i ∧ agu P r (n + 1)
theorem a0b {P : Program} : ∀ {l : List (Option TI)} {n : Nat}, agu P l n → ∀ t i, a1k l t = some i → bj P (n + t) = some i
 | [], _, _, t, i, h => by simp [a1k] at h
 | none :: r, n, hf, 0, i, h => by simp [a1k] at h
 | some x :: r, n, hf, 0, i, h => by simp only [a1k, Option.some.injEq] at h; subst h; exact hf.1
 | none :: r, n, hf, t + 1, i, h => by have := a0b (l := r) (n := n + 1) hf t i h; rwa [show n + (t + 1) = n + 1 + t by omega]
 | some x :: r, n, hf, t + 1, i, h => by have := a0b (l := r) (n := n + 1) hf.2 t i h; rwa [show n + (t + 1) = n + 1 + t by omega]
theorem auh : bj Tryz.prog 1 = some ⟨.func, 1, 8, some [.nilFunc], false, false, true⟩ := by kernel_rfl
theorem axd : bj Tryz.prog 2 = some ⟨.int .i64, 1, 8, some [.int .i64 0], false, false, true⟩ := by kernel_rfl
theorem awd : bj Tryz.prog 3 = some ⟨.int .i64, 1, 8, some [.int .i64 0], false, false, true⟩ := by kernel_rfl
theorem ax4 : bj Tryz.prog 4 = some ⟨.bool, 1, 1, some [.bool false], false, false, true⟩ := by kernel_rfl
theorem avn : bj Tryz.prog 5 = some ⟨.int .u8, 1, 1, some [.int .u8 0], false, false, true⟩ := by kernel_rfl
theorem ava : bj Tryz.prog 6 = some ⟨.int .u8, 1, 1, some [.int .u8 0], false, false, true⟩ := by kernel_rfl
theorem aue : bj Tryz.prog 7 = some ⟨.struct [(0, 2, false), (1, 3, false), (2, 4, false), (3, 6, false)], 4, 24, some [.int .i64 0, .int .i64 0, .bool false, .int .u8 0], false, false, false⟩ := by kernel_rfl
theorem atn : bj Tryz.prog 8 = some ⟨.struct [(0, 2, false), (1, 3, false), (2, 4, false), (3, 6, false)], 4, 24, some [.int .i64 0, .int .i64 0, .bool false, .int .u8 0], false, false, false⟩ := by kernel_rfl
theorem auv : bj Tryz.prog 9 = some ⟨.string, 1, 16, some [.string ⟨#[]⟩], false, false, true⟩ := by kernel_rfl
theorem anr : bj Tryz.prog 10 = some ⟨.string, 1, 16, some [.string ⟨#[]⟩], false, false, true⟩ := by kernel_rfl
theorem anc : bj Tryz.prog 11 = some ⟨.string, 1, 16, some [.string ⟨#[]⟩], false, false, true⟩ := by kernel_rfl
theorem ar6 : bj Tryz.prog 12 = some ⟨.int .u64, 1, 8, some [.int .u64 0], false, false, true⟩ := by kernel_rfl
theorem ap4 : bj Tryz.prog 15 = some ⟨.pointer 240, 1, 8, some [.pointer none], false, false, true⟩ := by kernel_rfl
theorem ar9 : bj Tryz.prog 16 = some ⟨.pointer 243, 1, 8, some [.pointer none], false, false, true⟩ := by kernel_rfl
theorem apx : bj Tryz.prog 17 = some ⟨.pointer 252, 1, 8, some [.pointer none], false, false, true⟩ := by kernel_rfl
theorem anq : bj Tryz.prog 21 = some ⟨.int .i32, 1, 4, some [.int .i32 0], false, false, true⟩ := by kernel_rfl
theorem aqm : bj Tryz.prog 22 = some ⟨.slice 136, 1, 24, some [.slice none 0 0], false, false, true⟩ := by kernel_rfl
theorem aoh : bj Tryz.prog 23 = some ⟨.struct [(0, 5, false), (1, 22, false)], 2, 32, some [.int .u8 0, .slice none 0 0], false, false, false⟩ := by kernel_rfl
theorem an8 : bj Tryz.prog 24 = some ⟨.struct [(0, 5, false), (1, 22, false)], 2, 32, some [.int .u8 0, .slice none 0 0], false, false, false⟩ := by kernel_rfl
theorem anw : bj Tryz.prog 25 = some ⟨.struct [(0, 24, false), (2, 22, false)], 3, 56, some [.int .u8 0, .slice none 0 0, .slice none 0 0], false, false, false⟩ := by kernel_rfl
theorem aow : bj Tryz.prog 26 = some ⟨.struct [(0, 24, false), (2, 22, false)], 3, 56, some [.int .u8 0, .slice none 0 0, .slice none 0 0], false, false, false⟩ := by kernel_rfl
theorem aps : bj Tryz.prog 27 = some ⟨.slice 40, 1, 24, some [.slice none 0 0], false, false, true⟩ := by kernel_rfl
theorem apo : bj Tryz.prog 28 = some ⟨.slice 42, 1, 24, some [.slice none 0 0], false, false, true⟩ := by kernel_rfl
theorem apk : bj Tryz.prog 32 = some ⟨.slice 38, 1, 24, some [.slice none 0 0], false, false, true⟩ := by kernel_rfl
theorem ar5 : bj Tryz.prog 33 = some ⟨.int .i64, 1, 8, some [.int .i64 0], false, false, true⟩ := by kernel_rfl
theorem aqh : bj Tryz.prog 37 = some ⟨.int .u32, 1, 4, some [.int .u32 0], false, false, true⟩ := by kernel_rfl
theorem ap1 : bj Tryz.prog 38 = some ⟨.int .u32, 1, 4, some [.int .u32 0], false, false, true⟩ := by kernel_rfl
theorem aoj : bj Tryz.prog 39 = some ⟨.struct [(0, 38, false), (1, 38, false)], 2, 8, some [.int .u32 0, .int .u32 0], false, false, false⟩ := by kernel_rfl
theorem aqw : bj Tryz.prog 40 = some ⟨.struct [(0, 38, false), (1, 38, false)], 2, 8, some [.int .u32 0, .int .u32 0], false, false, false⟩ := by kernel_rfl
theorem an9 : bj Tryz.prog 42 = some ⟨.struct [(0, 38, false), (1, 38, false)], 2, 8, some [.int .u32 0, .int .u32 0], false, false, false⟩ := by kernel_rfl
theorem aqp : bj Tryz.prog 44 = some ⟨.func, 1, 8, some [.nilFunc], false, false, true⟩ := by kernel_rfl
theorem anj : bj Tryz.prog 48 = some ⟨.func, 1, 8, some [.nilFunc], false, false, true⟩ := by kernel_rfl
theorem arc : bj Tryz.prog 49 = some ⟨.slice 5, 1, 24, some [.slice none 0 0], false, false, true⟩ := by kernel_rfl
theorem aod : bj Tryz.prog 54 = some ⟨.array 2 38, 2, 8, some [.int .u32 0, .int .u32 0], false, false, false⟩ := by kernel_rfl
theorem ap3 : bj Tryz.prog 56 = some ⟨.func, 1, 8, some [.nilFunc], false, false, true⟩ := by kernel_rfl
theorem apa : bj Tryz.prog 76 = some ⟨.slice 155, 1, 24, some [.slice none 0 0], false, false, true⟩ := by kernel_rfl
theorem ap8 : bj Tryz.prog 95 = some ⟨.func, 1, 8, some [.nilFunc], false, false, true⟩ := by kernel_rfl
theorem aoo : bj Tryz.prog 98 = some ⟨.func, 1, 8, some [.nilFunc], false, false, true⟩ := by kernel_rfl
theorem akh : bj Tryz.prog 107 = some ⟨.func, 1, 8, some [.nilFunc], false, false, true⟩ := by kernel_rfl
theorem amk : bj Tryz.prog 114 = some ⟨.slice 120, 1, 24, some [.slice none 0 0], false, false, true⟩ := by kernel_rfl
theorem aki : bj Tryz.prog 118 = some ⟨.slice 121, 1, 24, some [.slice none 0 0], false, false, true⟩ := by kernel_rfl
theorem ak7 : bj Tryz.prog 119 = some ⟨.struct [(0, 3, false), (1, 118, false)], 2, 32, some [.int .i64 0, .slice none 0 0], false, false, false⟩ := by kernel_rfl
theorem akr : bj Tryz.prog 120 = some ⟨.struct [(0, 3, false), (1, 118, false)], 2, 32, some [.int .i64 0, .slice none 0 0], false, false, false⟩ := by kernel_rfl
theorem alk : bj Tryz.prog 121 = some ⟨.slice 3, 1, 24, some [.slice none 0 0], false, false, true⟩ := by kernel_rfl
theorem ajn : bj Tryz.prog 132 = some ⟨.func, 1, 8, some [.nilFunc], false, false, true⟩ := by kernel_rfl
theorem ama : bj Tryz.prog 134 = some ⟨.func, 1, 8, some [.nilFunc], false, false, true⟩ := by kernel_rfl
theorem amo : bj Tryz.prog 135 = some ⟨.struct [(0, 5, false), (1, 5, false)], 2, 2, some [.int .u8 0, .int .u8 0], false, false, false⟩ := by kernel_rfl
theorem alh : bj Tryz.prog 136 = some ⟨.struct [(0, 5, false), (1, 5, false)], 2, 2, some [.int .u8 0, .int .u8 0], false, false, false⟩ := by kernel_rfl
theorem an4 : bj Tryz.prog 137 = some ⟨.int .u64, 1, 8, some [.int .u64 0], false, false, true⟩ := by kernel_rfl
theorem al8 : bj Tryz.prog 154 = some ⟨.struct [(0, 4, false), (1, 3, false), (2, 3, false), (3, 3, false)], 4, 32, some [.bool false, .int .i64 0, .int .i64 0, .int .i64 0], false, false, false⟩ := by kernel_rfl
theorem ald : bj Tryz.prog 155 = some ⟨.struct [(0, 4, false), (1, 3, false), (2, 3, false), (3, 3, false)], 4, 32, some [.bool false, .int .i64 0, .int .i64 0, .int .i64 0], false, false, false⟩ := by kernel_rfl
theorem alc : bj Tryz.prog 156 = some ⟨.func, 1, 8, some [.nilFunc], false, false, true⟩ := by kernel_rfl
theorem alv : bj Tryz.prog 158 = some ⟨.func, 1, 8, some [.nilFunc], false, false, true⟩ := by kernel_rfl
theorem am0 : bj Tryz.prog 159 = some ⟨.int .u64, 1, 8, some [.int .u64 0], false, false, true⟩ := by kernel_rfl
theorem akp : bj Tryz.prog 161 = some ⟨.struct [(0, 32, false)], 1, 24, some [.slice none 0 0], false, false, false⟩ := by kernel_rfl
theorem aj4 : bj Tryz.prog 162 = some ⟨.struct [(0, 32, false)], 1, 24, some [.slice none 0 0], false, false, false⟩ := by kernel_rfl
theorem ajt : bj Tryz.prog 173 = some ⟨.slice 4, 1, 24, some [.slice none 0 0], false, false, true⟩ := by kernel_rfl
theorem alz : bj Tryz.prog 177 = some ⟨.map 38 38, 1, 8, some [.map none], false, false, true⟩ := by kernel_rfl
theorem aky : bj Tryz.prog 191 = some ⟨.int .i64, 1, 8, some [.int .i64 0], false, false, true⟩ := by kernel_rfl
theorem aju : bj Tryz.prog 198 = some ⟨.func, 1, 8, some [.nilFunc], false, false, true⟩ := by kernel_rfl
theorem akx : bj Tryz.prog 206 = some ⟨.func, 1, 8, some [.nilFunc], false, false, true⟩ := by kernel_rfl
theorem ait : bj Tryz.prog 211 = some ⟨.pointer 162, 1, 8, some [.pointer none], false, false, true⟩ := by kernel_rfl
theorem ako : bj Tryz.prog 213 = some ⟨.array 32 5, 32, 32, some [.int .u8 0, .int .u8 0, .int .u8 0, .int .u8 0, .int .u8 0, .int .u8 0, .int .u8 0, .int .u8 0, .int .u8 0, .int .u8 0, .int .u8 0, .int .u8 0, .int .u8 0, .int .u8 0, .int .u8 0, .int .u8 0, .int .u8 0, .int .u8 0, .int .u8 0, .int .u8 0, .int .u8 0, .int .u8 0, .int .u8 0, .int .u8 0, .int .u8 0, .int .u8 0, .int .u8 0, .int .u8 0, .int .u8 0, .int .u8 0, .int .u8 0, .int .u8 0], false, false, false⟩ := by kernel_rfl
theorem an3 : bj Tryz.prog 214 = some ⟨.int .u64, 1, 8, some [.int .u64 0], false, false, true⟩ := by kernel_rfl
theorem ajo : bj Tryz.prog 218 = some ⟨.pointer 3, 1, 8, some [.pointer none], false, false, true⟩ := by kernel_rfl
theorem aj6 : bj Tryz.prog 224 = some ⟨.pointer 214, 1, 8, some [.pointer none], false, false, true⟩ := by kernel_rfl
theorem ak2 : bj Tryz.prog 228 = some ⟨.slice 27, 1, 24, some [.slice none 0 0], false, false, true⟩ := by kernel_rfl
theorem amb : bj Tryz.prog 241 = some ⟨.array 0 16, 0, 0, some [], false, false, false⟩ := by kernel_rfl
theorem ak6 : bj Tryz.prog 245 = some ⟨.int .u8, 1, 1, some [.int .u8 0], false, false, true⟩ := by kernel_rfl
theorem akj : bj Tryz.prog 246 = some ⟨.int .u8, 1, 1, some [.int .u8 0], false, false, true⟩ := by kernel_rfl
theorem akb : bj Tryz.prog 247 = some ⟨.func, 1, 8, some [.nilFunc], false, false, true⟩ := by kernel_rfl
theorem amw : bj Tryz.prog 248 = some ⟨.pointer 5, 1, 8, some [.pointer none], false, false, true⟩ := by kernel_rfl
theorem als : bj Tryz.prog 249 = some ⟨.int .i32, 1, 4, some [.int .i32 0], false, false, true⟩ := by kernel_rfl
theorem alu : bj Tryz.prog 250 = some ⟨.int .i32, 1, 4, some [.int .i32 0], false, false, true⟩ := by kernel_rfl
theorem aqv : agu Tryz.prog a94 0 := ⟨auh, ⟨axd, ⟨awd, ⟨ax4, ⟨avn, ⟨ava, ⟨aue, ⟨atn, ⟨auv, ⟨anr, ⟨anc, ⟨ar6, ⟨ap4, ⟨ar9, ⟨apx, ⟨anq, ⟨aqm, ⟨aoh, ⟨an8, ⟨anw, ⟨aow, ⟨aps, ⟨apo, ⟨apk, ⟨ar5, ⟨aqh, ⟨ap1, ⟨aoj, ⟨aqw, ⟨an9, ⟨aqp, ⟨anj, ⟨arc, ⟨aod, ⟨ap3, ⟨apa, ⟨ap8, ⟨aoo, ⟨akh, ⟨amk, ⟨aki, ⟨ak7, ⟨akr, ⟨alk, ⟨ajn, ⟨ama, ⟨amo, ⟨alh, ⟨an4, ⟨al8, ⟨ald, ⟨alc, ⟨alv, ⟨am0, ⟨akp, ⟨aj4, ⟨ajt, ⟨alz, ⟨aky, ⟨aju, ⟨akx, ⟨ait, ⟨ako, ⟨an3, ⟨ajo, ⟨aj6, ⟨ak2, ⟨amb, ⟨ak6, ⟨akj, ⟨akb, ⟨amw, ⟨als, ⟨alu, trivial⟩⟩⟩⟩⟩⟩⟩⟩⟩⟩⟩⟩⟩⟩⟩⟩⟩⟩⟩⟩⟩⟩⟩⟩⟩⟩⟩⟩⟩⟩⟩⟩⟩⟩⟩⟩⟩⟩⟩⟩⟩⟩⟩⟩⟩⟩⟩⟩⟩⟩⟩⟩⟩⟩⟩⟩⟩⟩⟩⟩⟩⟩⟩⟩⟩⟩⟩⟩⟩⟩⟩⟩⟩⟩
theorem af : ce Tryz.prog bm := fun t i h => by
 have := a0b aqv t i h
 rwa [Nat.zero_add] at this
theorem ar : Tryz.prog.follows .mixedOrders = true := by kernel_rfl
end Go.Hx
namespace Go.Hx
open Go.Proofs
section
variable {ro : Option Nat} {P : Program} {E : Env} {nt : Nat} {ops : Array Oper} {i : Nat} {o : Oper} {st : HSt} {L : List Nat} {K : List Tr → HSt → Prop} {Q : Exit → HSt → Prop}
theorem qy {out : Out} {gb : Bool} (hT : Reg P E nt ops L (st.after o.dst (some out.val) []) fun T sf => K (⟨i, a3f true out.val.ids, looks st.den o, cb st.den o.dst [], eq E st.den o⟩ :: T) sf)
 (hi : ops[i]? = some o := by exact rfl) (hw : bd ops st.den o = some gb := by exact rfl) (hd : dl nt o.dst = true := by exact rfl) (hq' : hq E true st.den.o (ev st.den) o.op = some out := by exact rfl) (hg : gb = true := by exact rfl)
 (hp : out.pre := by first | exact trivial | (simp only [ig, inR, oq, qq]; omega) | exact adl _ _ | exact ⟨trivial, trivial⟩ | exact ⟨trivial, Nat.le_of_ble_eq_true rfl⟩ | (try dsimp only) <;> ((repeat' apply And.intro) <;> first | trivial | rfl | omega | (simp only [im, c4]; omega) | assumption | exact Nat.le_of_ble_eq_true rfl)) :
 Reg P E nt ops (i :: L) st K := eu true hi hw hd hq' hg hp hT
theorem k9 {gb : Bool} (hg : gb = false) (hT : Reg P E nt ops L (st.after o.dst (some (.tup [])) []) fun T sf => K (⟨i, a3f true [], looks st.den o, cb st.den o.dst [], none⟩ :: T) sf)
 (hi : ops[i]? = some o := by exact rfl) (hw : bd ops st.den o = some gb := by exact rfl) (hd : dl nt o.dst = true := by exact rfl) : Reg P E nt ops (i :: L) st K := ag4 hi hw hd hg hT
theorem m9 (id : Nat) {nw : New} {gb : Bool} (hT : Reg P E nt ops L (st.after o.dst (some nw.val) [(id, some nw.ob)]) fun T sf => K (⟨i, ⟨id, false, true, .tup [], [id], [id], nw.val.ids ++ nw.ob.ids⟩, looks st.den o, cb st.den o.dst [(id, some nw.ob)], none⟩ :: T) sf)
 (hi : ops[i]? = some o := by exact rfl) (hw : bd ops st.den o = some gb := by exact rfl) (hd : dl nt o.dst = true := by exact rfl) (hq' : ha E (ev st.den) id o.op = some nw := by exact rfl) (hn : qw id st = true := by exact rfl) (hg : gb = true := by exact rfl)
 (hp : nw.pre := by first | exact trivial | (try dsimp only) <;> ((repeat' apply And.intro) <;> first | trivial | rfl | omega | assumption)) : Reg P E nt ops (i :: L) st K := a1t id hi hw hd hq' hn hg hp hT
theorem s9 {u : Upd} {gb : Bool} (hT : Reg P E nt ops L (st.after o.dst none [(u.id, some u.ob)]) fun T sf => K (⟨i, ⟨0, false, true, .tup [], [u.id], [], u.ob.ids⟩, looks st.den o, cb st.den o.dst [(u.id, some u.ob)], eq E st.den o⟩ :: T) sf)
 (hi : ops[i]? = some o := by exact rfl) (hw : bd ops st.den o = some gb := by exact rfl) (hd : dl nt o.dst = true := by exact rfl) (hq' : hs E st.den.o (ev st.den) o.op = some u := by exact rfl) (hg : gb = true := by exact rfl)
 (hp : u.pre := by first | exact Nat.le_of_ble_eq_true rfl | (try dsimp only) <;> ((repeat' apply And.intro) <;> first | trivial | rfl | omega | (simp only [im, c4]; omega) | assumption | exact Nat.le_of_ble_eq_true rfl)) : Reg P E nt ops (i :: L) st K := ad4 hi hw hd hq' hg hp hT
theorem f9 {rs : List ResultVar} {res : List PC} {p q : Prop} {l : List HC} {vs : List PC} (h1 : v2 E st.den rs = some (p, l)) (h2 : ml st.den.o l = some (q, vs)) (hc : CoL vs res)
 (hp : p := by (repeat' apply And.intro) <;> first | trivial | exact Nat.le_of_ble_eq_true rfl | rfl) (hq : q := by (repeat' apply And.intro) <;> first | trivial | exact Nat.le_of_ble_eq_true rfl | rfl) : ahy E st rs res := ⟨p, l, q, vs, h1, hp, h2, hq, hc⟩
theorem c9 {f : Option HR} {x : HR} (h : f = some x := by exact rfl) : ∃ y, f = some y ∧ CoR y x := ⟨x, h, CoR.refl x⟩
theorem u9 {f : Option aj} {x : aj} (h : f = some x := by exact rfl) : ∃ y, f = some y ∧ CoO y x := ⟨x, h, CoO.refl x⟩
theorem zy {f : Option HR} {x y : HR} (h : f = some y := by exact rfl) (c : CoR y x := by first | exact CoR.refl _ | exact coi (by omega) | exact cob (by simp_all)) : ∃ y, f = some y ∧ CoR y x := ⟨y, h, c⟩
theorem l9 {a b : Nat} (h : Nat.ble a b = true := by exact rfl) : a ≤ b := Nat.le_of_ble_eq_true h
theorem ty {n : Nat} : ((n : Nat) : Int).toNat = n := Int.toNat_natCast n
end
theorem gy {ro : Option Nat} {nt id : Nat} {ops : Array Oper} {st : HSt} {Q : Exit → HSt → Prop} (h : Reg Tryz.prog bm nt ops (List.range ops.size) st fun _ sf => Q .normal sf) : HW (ro := ro) Tryz.prog nt (.region id ops false) st Q := a8f af h
end Go.Hx
namespace Go.Hx
open Go.Proofs
theorem sx7 {ro : Option Nat} {nt id : Nat} {ops : Array Oper} {st : HSt} {y : Code} {Q : Exit → HSt → Prop} (h : Reg Tryz.prog bm nt ops (List.range ops.size) st fun _ sf => azq (ro := ro) Tryz.prog nt y Q .normal sf) : HW (ro := ro) Tryz.prog nt (.seq (.region id ops false) y) st Q := a7 (a8f af h)
theorem hx8 {ro : Option Nat} {P : Program} {E : Env} {nt : Nat} {st : HSt} {Q : Exit → HSt → Prop} {rs : List ResultVar} {res : List PC} {p q : Prop} {l : List HC} {vs : List PC} (hQ : Q .ret st = ((Exit.ret = .normal ∨ Exit.ret = .ret) ∧ ahy E st rs res)) (h1 : v2 E st.den rs = some (p, l)) (h2 : ml st.den.o l = some (q, vs)) (hc : CoL vs res)
 (hp : p := by (repeat' apply And.intro) <;> first | trivial | exact Nat.le_of_ble_eq_true rfl | rfl) (hq : q := by (repeat' apply And.intro) <;> first | trivial | exact Nat.le_of_ble_eq_true rfl | rfl) : HW (ro := ro) P nt .ret st Q := am (hQ ▸ ⟨.inr rfl, p, l, q, vs, h1, hp, h2, hq, hc⟩)
end Go.Hx
end
section
namespace Go.Hx
open Go.Proofs Go.Lib Go.RowKit
theorem ay4 (w : World) (o : Obj) {r : Nat} (h : r < w.heap.size) : (w.alloc o).heap[r]? = w.heap[r]? := by
 show (w.heap.push o)[r]? = _
 rw [Array.getElem?_push_lt h, Array.getElem?_eq_getElem h]
def b40 (k : Nat) (xs vs : List Value) : List Value := xs.take k ++ vs ++ xs.drop k
structure b38 (w w' : World) (T s : Nat) (own v : Value) (n : Nat) (xs : List Value) : Prop where
 row : w'.ownsRow 0 T s v (n + 1) xs
 bl : Below 0 w w'
 out : ∀ g, g < w.heap.size → ct own ≠ some g → w'.heap[g]? = w.heap[g]?
 at_ : ∀ g, ct v = some g → w.heap.size ≤ g ∨ ct own = some g
def b3z (i : Nat) (F G : Nat → Nat → PV) : Nat → Nat → PV := fun k j => if k < i then F k j else if k = i then G 0 j else F (k - 1) j
theorem gr {id q : Nat} {x ob : aj} (h : lk [(q, x)] id = some ob) : id = q ∧ ob = x := by
 simp only [lk] at h
 by_cases hk : q = id
 · subst hk
   simp at h
   exact ⟨rfl, h.symm⟩
 · have : Nat.beq q id = false := by
    rw [Bool.eq_false_iff]; exact fun hb => hk (Nat.eq_of_beq_eq_true hb)
   rw [this] at h
   cases h
structure b3r (c : Ctx) (w w' : World) (T s a : Nat) (v : Value) (n : Nat) (ys : List Value) : Prop where
 row : w'.ownsRow 0 T s v (n + 1) ys
 bl : Below 0 w w'
 out : ∀ g, g < w.heap.size → ¬ c.blk a g → w'.heap[g]? = w.heap[g]?
 at_ : ∀ g, ct v = some g → w.heap.size ≤ g ∨ c.blk a g
theorem ar0 {P : Program} {f : FuncId} {T s a : Nat} {y : Value} {F : Nat → Nat → PV} (hs : 0 < s)
 (h : ∀ (w : World) (ad : Option Addr), Calls P f #[.slice ad 0 0, y] w fun e w' => ∃ v, e = .returned v ∧ Below w.heap.size w w' ∧ (v = .slice ad 0 0 ∨ w'.ownsRow 0 T s v 0 [] ∧ ∀ g, ct v = some g → w.heap.size ≤ g)) :
 ee P f [.one (.p (l8 (.slice none 0 0))), .one (.p (.raw y))] [] (.v (.one (.ref a 0))) [(a, .arr true s T 0 F)] [] := by
 intro w c us hM hrep
 obtain ⟨ad, rfl⟩ : ∃ ad, us = [.slice ad 0 0, y] := by
  match us, hrep with
  | [u0, u1], ⟨h0, h1, _⟩ =>
   obtain ⟨ad, cap, hv, _, _, hc, _⟩ := h0
   obtain rfl : cap = 0 := hc rfl
   exact ⟨ad, by rw [hv, show u1 = y from h1.1]⟩
 refine (h w ad).mono ?_
 rintro e w' ⟨v, rfl, hb, hor⟩
 have la : lk [(a, aj.arr true s T 0 F)] a = some (.arr true s T 0 F) := by simp [lk]
 have him : ∀ q ob, c.imm q = some ob → q < w.heap.size := fun q ob hq => (Array.getElem?_eq_some_iff.1 (hM.imm q ob hq)).1
 have hform : v.oneCell' = true := by
  rcases hor with rfl | ⟨hrow, _⟩
  · rfl
  · rcases hrow.2 with ⟨hv, _⟩ | ⟨g, cap, cur, hv, _⟩ <;> (subst hv; rfl)
 have hbk : ∃ bk : Nat → Prop, (∀ g, bk g → w.heap.size ≤ g) ∧ (bk = gm v ∧ w'.ownsRow 0 T s v 0 [] ∨ bk = noB ∧ b8 c.imm (.sl 0 s true F) v) := by
  rcases hor with rfl | ⟨hrow, hat⟩
  · exact ⟨noB, fun g hg => hg.elim, .inr ⟨rfl, ad, 0, rfl, Nat.le_refl _, Nat.zero_le _, fun _ => rfl, fun h => absurd h (Nat.lt_irrefl 0)⟩⟩
  · exact ⟨gm v, hat, .inl ⟨rfl, hrow⟩⟩
 obtain ⟨bk, hat, hok⟩ := hbk
 refine ⟨v, { c with own := fun q => if q = a then v else c.own q, blk := fun q => if q = a then bk else c.blk q }, rfl, ⟨hform, fun l hl => (by cases (gr hl).2), fun ob s1 e1 n1 ho1 hd => ?_⟩, ⟨fun id ob hl => ?_, fun id id' ob ob' q hl hl' _ _ => by rw [(gr hl).1, (gr hl').1], fun q ob hq => (hb.block q (him q ob hq)).trans (hM.imm q ob hq), fun id ob q hl hq => ?_⟩, ⟨hb.os, hb.tape, hb.output, hb.size, fun k hk => absurd hk (Nat.not_lt_zero k), hb.drawn⟩, fun q hq _ => ⟨hb.block q hq, rfl⟩, fun id ob q hl hq => ?_, fun id hid => absurd hid (by simp)⟩
 · obtain ⟨_, rfl⟩ := gr ho1
   simp only [aj.dim, Option.some.injEq, Prod.mk.injEq] at hd
   obtain ⟨rfl, rfl, rfl⟩ := hd
   exact ⟨Nat.le_refl _, fun _ => by simp⟩
 · obtain ⟨rfl, rfl⟩ := gr hl
   rcases hok with ⟨h1, h2⟩ | ⟨h1, h2⟩
   · exact ⟨hs, Nat.zero_le _, .inl ⟨by simpa using h1, [], by simpa using h2, fun i j hi => by omega⟩⟩
   · exact ⟨hs, Nat.zero_le _, .inr ⟨.inr rfl, by simpa using h1, by simpa using h2⟩⟩
 · obtain ⟨rfl, _⟩ := gr hl
   have hq' : bk q := by simpa using hq
   show c.imm q = none
   cases hc : c.imm q with
   | none => rfl
   | some ob => have := him q ob hc; have := hat q hq'; omega
 · obtain ⟨rfl, _⟩ := gr hl
   have hq' : bk q := by simpa using hq
   exact .inl (hat q hq')
def HE (nt : Nat) (st : HSt) (Q : HSt → Prop) : Prop := ∀ w0 m0 a w, Rel w0 m0 nt st.den a w → ∃ st' : HSt, Q st' ∧ Rel w0 m0 nt st'.den a w
theorem at0 {nt : Nat} {st : HSt} {Q : HSt → Prop} (h : Q st) : HE nt st Q := fun _ _ _ _ hr => ⟨st, h, hr⟩
end Go.Hx
end
section
namespace Go.Hx
open Go.RowKit
abbrev AS := BitVec 32
abbrev asI (s : AS) : Int := (s.toNat : Int)
def asC (s : AS) : PV := .raw (.int .u32 (asI s))
theorem ad1 {n : Int} (h0 : 0 ≤ n) (h1 : n < 4294967296) : IntKind.wrap .u32 n = n := lp (by simp only [inR, oq, qq]; omega)
theorem a4h (s : AS) : asI s < 4294967296 := by
 have := s.isLt
 unfold asI
 omega
theorem a0p (s : AS) : 0 ≤ asI s := Int.natCast_nonneg _
theorem o3 (s : AS) : BitVec.ofInt 32 (asI s) = s := by
 unfold asI
 rw [BitVec.ofInt_natCast, BitVec.ofNat_toNat, BitVec.setWidth_eq]
theorem db {a b : AS} : asI a = asI b ↔ a = b := by
 unfold asI
 rw [Int.ofNat_inj]
 exact BitVec.toNat_inj
theorem a3n (s : AS) : IntKind.wrap .u32 (s.toNat : Int) = asI s := ad1 (a0p s) (a4h s)
theorem o8 (a b : AS) : ca .and .u32 (asI a) (asI b) = asI (a &&& b) := by
 show IntKind.wrap .u32 ((BitVec.ofInt 32 (asI a) &&& BitVec.ofInt 32 (asI b)).toNat : Int) = _
 rw [o3, o3, a3n]
theorem bOr (a b : AS) : ca .or .u32 (asI a) (asI b) = asI (a ||| b) := by
 show IntKind.wrap .u32 ((BitVec.ofInt 32 (asI a) ||| BitVec.ofInt 32 (asI b)).toNat : Int) = _
 rw [o3, o3, a3n]
theorem zp (a b : AS) : ca .andNot .u32 (asI a) (asI b) = asI (a &&& ~~~b) := by
 show IntKind.wrap .u32 ((BitVec.ofInt 32 (asI a) &&& ~~~BitVec.ofInt 32 (asI b)).toNat : Int) = _
 rw [o3, o3, a3n]
theorem a3c (a : AS) (n : Nat) : (asI a).fdiv (2 ^ (min n 32)) = asI (a >>> n) := by
 have e : (2 : Int) ^ (min n 32) = ((2 ^ (min n 32) : Nat) : Int) := by rw [Int.natCast_pow]; rfl
 rw [e]
 unfold asI
 rw [Int.fdiv_eq_ediv_of_nonneg _ (Int.natCast_nonneg _), ← Int.natCast_ediv, BitVec.toNat_ushiftRight, Nat.shiftRight_eq_div_pow]
 by_cases h : n ≤ 32
 · rw [Nat.min_eq_left h]
 · rw [Nat.min_eq_right (by omega)]
   have h1 := a.isLt
   have h2 : 2 ^ 32 ≤ 2 ^ n := Nat.pow_le_pow_right (by omega) (by omega)
   rw [Nat.div_eq_of_lt (by omega), Nat.div_eq_of_lt (Nat.lt_of_lt_of_le (by omega) h2)]
theorem ahn (a : AS) (n : Nat) : IntKind.wrap .u32 (asI a * 2 ^ (min n 32)) = asI (a <<< n) := by
 have e : asI a * (2 : Int) ^ (min n 32) = ((a.toNat * 2 ^ (min n 32) : Nat) : Int) := by rw [Int.natCast_mul, Int.natCast_pow]; rfl
 rw [e]
 have hw : ∀ m : Nat, IntKind.wrap .u32 (m : Int) = ((m % 4294967296 : Nat) : Int) := by
  intro m
  simp [IntKind.wrap, IntKind.signed, IntKind.bits]
 rw [hw]
 unfold asI
 rw [BitVec.toNat_shiftLeft, Nat.shiftLeft_eq]
 by_cases h : n ≤ 32
 · rw [Nat.min_eq_left h]
 · rw [Nat.min_eq_right (by omega)]
   have h1 : a.toNat * 2 ^ 32 % 2 ^ 32 = 0 := Nat.mul_mod_left _ _
   have h2 : a.toNat * 2 ^ n % 2 ^ 32 = 0 := by
    obtain ⟨k, rfl⟩ : ∃ k, n = k + 32 := ⟨n - 32, by omega⟩
    rw [Nat.pow_add, ← Nat.mul_assoc]
    exact Nat.mul_mod_left _ _
   have h1 : a.toNat * 2 ^ 32 % 4294967296 = 0 := h1
   rw [h1, h2]
end Go.Hx
end
section
namespace Go.Hx
structure Fd where
 lhs : AS
 rhs : AS
instance : Inhabited Fd := ⟨⟨0, 0⟩⟩
theorem Fd.eq_iff {a b : Fd} : a = b ↔ a.lhs = b.lhs ∧ a.rhs = b.rhs := by cases a; cases b; simp
instance : DecidableEq Fd := fun a b => decidable_of_iff _ (Fd.eq_iff (a := a) (b := b)).symm
def Fd.c (x : Fd) : Nat → PV
 | 0 => asC x.lhs
 | 1 => asC x.rhs
 | _ => .any
def sub (a b : AS) : Prop := a &&& ~~~b = 0
instance : DecidablePred fun p : AS × AS => sub p.1 p.2 := fun p => inferInstanceAs (Decidable (_ = _))
instance {a b : AS} : Decidable (sub a b) := inferInstanceAs (Decidable (_ = _))
theorem az {a b : AS} : sub a b ↔ ∀ i, i < 32 → a.getLsbD i = true → b.getLsbD i = true := by
 unfold sub
 constructor
 · intro h i hi ha
   have := congrArg (fun x : AS => x.getLsbD i) h
   simp only [BitVec.getLsbD_and, BitVec.getLsbD_not, hi, ha, decide_true, Bool.true_and] at this
   simpa using this
 · intro h
   apply BitVec.eq_of_getLsbD_eq
   intro i hi
   have := h i hi
   simp only [BitVec.getLsbD_and, BitVec.getLsbD_not, hi, decide_true, Bool.true_and]
   cases ha : a.getLsbD i <;> cases hb : b.getLsbD i <;> simp_all
theorem dh (a : AS) : sub a a := az.2 fun _ _ h => h
theorem b6 {a b c : AS} (h : sub a b) (k : sub b c) : sub a c := az.2 fun i hi ha => az.1 k i hi (az.1 h i hi ha)
theorem nf {a b : AS} : sub a (a ||| b) := az.2 fun i hi ha => by simp [ha]
theorem n9 {a b : AS} : sub b (a ||| b) := az.2 fun i hi ha => by simp [ha]
theorem qg {a b c : AS} (h : sub a c) (k : sub b c) : sub (a ||| b) c := az.2 fun i hi ha => by
 rw [BitVec.getLsbD_or, Bool.or_eq_true] at ha
 rcases ha with ha | ha
 · exact az.1 h i hi ha
 · exact az.1 k i hi ha
theorem df {a b : AS} (h : sub a b) (k : sub b a) : a = b := by
 apply BitVec.eq_of_getLsbD_eq
 intro i hi
 have h1 := az.1 h i hi
 have h2 := az.1 k i hi
 cases ha : a.getLsbD i <;> cases hb : b.getLsbD i <;> simp_all
theorem a5a {a b : AS} (h : sub a b) : a.toNat ≤ b.toNat := by
 have e : a ||| b = b := df (qg h (dh b)) n9
 have : a.toNat ≤ (a ||| b).toNat := by rw [BitVec.toNat_or]; exact Nat.left_le_or
 rwa [e] at this
theorem qf {a b : AS} (h : sub a b) (hne : a ≠ b) : a.toNat < b.toNat := by
 rcases Nat.lt_or_eq_of_le (a5a h) with h | h
 · exact h
 · exact absurd (BitVec.eq_of_toNat_eq h) hne
theorem avx {a b : AS} : sub a b ↔ a &&& b = a := by
 rw [az]
 constructor
 · intro h
   apply BitVec.eq_of_getLsbD_eq
   intro i hi
   have := h i hi
   rw [BitVec.getLsbD_and]
   cases ha : a.getLsbD i <;> simp_all
 · intro h i hi ha
   have := congrArg (fun x : AS => x.getLsbD i) h
   simp only [BitVec.getLsbD_and, ha, Bool.true_and] at this
   exact this
def dn (s : AS) (f : Fd) : AS := if sub f.lhs s then s ||| f.rhs else s
def cw (l : List Fd) (s : AS) : AS := l.foldl dn s
theorem a5k {s : AS} {f : Fd} : sub s (dn s f) := by
 unfold dn
 split
 · exact nf
 · exact dh s
theorem kd : ∀ {l : List Fd} {s : AS}, sub s (cw l s)
 | [], s => dh s
 | f :: l, s => b6 a5k (kd (l := l) (s := dn s f))
def clF (l : List Fd) : Nat → AS → AS
 | 0, s => s
 | n + 1, s => if cw l s = s then s else clF l n (cw l s)
def clo (l : List Fd) (s : AS) : AS := clF l 4294967296 s
theorem abc {l : List Fd} : ∀ {n m : Nat} {s : AS}, 4294967296 - s.toNat ≤ n → 4294967296 - s.toNat ≤ m → clF l n s = clF l m s
 | 0, m, s, hn, hm => by have := s.isLt; omega
 | n + 1, 0, s, hn, hm => by have := s.isLt; omega
 | n + 1, m + 1, s, hn, hm => by
  unfold clF
  split
  · rfl
  · rename_i hne
    have := qf (kd (l := l) (s := s)) (fun e => hne e.symm)
    exact abc (by omega) (by omega)
theorem a85 {l : List Fd} {s : AS} (h : cw l s = s) : clo l s = s := by
 show clF l (4294967295 + 1) s = s
 unfold clF
 rw [if_pos h]
theorem ac6 {l : List Fd} {s : AS} : clo l (cw l s) = clo l s := by
 by_cases h : cw l s = s
 · rw [h]
 · have e : clo l s = clF l 4294967295 (cw l s) := by
    show clF l (4294967295 + 1) s = _
    rw [clF, if_neg h]
   rw [e]
   have := qf (kd (l := l) (s := s)) (fun e => h e.symm)
   exact abc (by omega) (by omega)
theorem a4c {l : List Fd} : ∀ {n : Nat} {s : AS}, 4294967296 - s.toNat ≤ n → cw l (clF l n s) = clF l n s
 | 0, s, hn => by have := s.isLt; omega
 | n + 1, s, hn => by
  unfold clF
  split
  · assumption
  · rename_i hne
    have := qf (kd (l := l) (s := s)) (fun e => hne e.symm)
    exact a4c (by omega)
theorem a4s {l : List Fd} {s : AS} : cw l (clo l s) = clo l s := a4c (by omega)
theorem ajx {l : List Fd} : ∀ {n : Nat} {s : AS}, sub s (clF l n s)
 | 0, s => dh s
 | n + 1, s => by
  unfold clF
  split
  · exact dh s
  · exact b6 kd ajx
theorem j5 {l : List Fd} {s : AS} : sub s (clo l s) := ajx
def l5 (l : List Fd) (s : AS) : Prop := ∀ f ∈ l, sub f.lhs s → sub f.rhs s
theorem qx : ∀ {l : List Fd} {s : AS}, cw l s = s ↔ l5 l s
 | [], s => ⟨fun _ f hf => (by cases hf), fun _ => rfl⟩
 | f :: l, s => by
  constructor
  · intro h
    have h1 : dn s f = s := df (by have := kd (l := l) (s := dn s f); rw [show cw l (dn s f) = s from h] at this; exact this) a5k
    have h2 : cw l s = s := by
     have : cw l (dn s f) = s := h
     rwa [h1] at this
    intro g hg
    rcases List.mem_cons.1 hg with rfl | hg
    · intro hl
      rw [dn, if_pos hl] at h1
      rw [← h1]
      exact n9
    · exact qx.1 h2 g hg
  · intro h
    have h1 : dn s f = s := by
     unfold dn
     split
     · rename_i hl
       exact df (qg (dh s) (h f (List.mem_cons_self ..) hl)) nf
     · rfl
    show cw l (dn s f) = s
    rw [h1]
    exact qx.2 fun g hg => h g (List.mem_cons_of_mem _ hg)
theorem a5t : ∀ {l : List Fd} {s t : AS}, l5 l t → sub s t → sub (cw l s) t
 | [], s, t, _, h => h
 | f :: l, s, t, ht, h => a5t (l := l) (fun g hg => ht g (List.mem_cons_of_mem _ hg)) (by
  unfold dn
  split
  · rename_i hl
    exact qg h (ht f (List.mem_cons_self ..) (b6 hl h))
  · exact h)
theorem ag2 {l : List Fd} {t : AS} (ht : l5 l t) : ∀ {n : Nat} {s : AS}, sub s t → sub (clF l n s) t
 | 0, s, h => h
 | n + 1, s, h => by
  unfold clF
  split
  · exact h
  · exact ag2 ht (a5t ht h)
theorem gu {l : List Fd} {s t : AS} (ht : l5 l t) (h : sub s t) : sub (clo l s) t := ag2 ht h
theorem ey {l : List Fd} {s : AS} : l5 l (clo l s) := qx.1 a4s
theorem jo {l : List Fd} {s t : AS} (h : sub s t) : sub (clo l s) (clo l t) := gu ey (b6 h j5)
theorem a43 {l : List Fd} {s : AS} : clo l (clo l s) = clo l s := a85 a4s
end Go.Hx
end
section
namespace Go.Hx
abbrev pI (a : Int) : PC := .one (.raw (.int .i64 a))
abbrev pB (b : Bool) : PC := .one (.raw (.bool b))
abbrev pP (x : PV) : PC := .one x
abbrev pA (s : AS) : PC := .one (.raw (.int .u32 (asI s)))
abbrev fdl (l : List Fd) : PV := psl 2 Fd.c l
abbrev asl (l : List AS) : PV := psl 1 (fun s _ => asC s) l
abbrev vI (a : Int) : HR := c5 (.raw (.int .i64 a))
abbrev vA (s : AS) : HR := c5 (.raw (.int .u32 (asI s)))
theorem a4k {l : List Fd} {s : AS} {i : Nat} (hi : i < l.length) : cw (l.take (i + 1)) s = dn (cw (l.take i) s) (l.getD i default) := by
 unfold cw
 rw [List.take_succ, List.getElem?_eq_getElem hi, List.foldl_append, List.getD_eq_getElem?_getD, List.getElem?_eq_getElem hi]
 rfl
theorem fy {a b : AS} : ca .andNot .u32 (asI a) (asI b) = 0 ↔ sub a b := by
 rw [zp, show (0 : Int) = asI 0 from rfl, db]
 exact Iff.rfl
theorem b0l {S : AS} {f : Fd} (h : ca .andNot .u32 (asI f.lhs) (asI S) = 0) : ca .or .u32 (asI S) (asI f.rhs) = asI (dn S f) := by
 rw [bOr, dn, if_pos (fy.1 h)]
theorem azo {S : AS} {f : Fd} (h : ¬ ca .andNot .u32 (asI f.lhs) (asI S) = 0) : dn S f = S := if_neg fun e => h (fy.2 e)
theorem cl_t' {S : AS} {f : Fd} (h : decide (sub f.lhs S) = true) : ca .or .u32 (asI S) (asI f.rhs) = asI (dn S f) := by
 rw [bOr, dn, if_pos (of_decide_eq_true h)]
theorem cl_f' {S : AS} {f : Fd} (h : decide (sub f.lhs S) = false) : dn S f = S := if_neg (of_decide_eq_false h)
def inU (n : Int) (f : Fd) : Bool := decide ((f.lhs ||| f.rhs) >>> n.toNat = 0)
def av (n : Int) (l : List Fd) : Int := if n < 0 ∨ 16 < n then 7 else if 64 < l.length then 3 else if l.all (inU n) = true then 0 else 1
theorem a20 {n : Int} {f : Fd} : (ca .or .u32 (asI f.lhs) (asI f.rhs)).fdiv (2 ^ (min n.toNat 32)) = 0 ↔ inU n f = true := by
 rw [bOr, a3c, show (0 : Int) = asI 0 from rfl, db]
 unfold inU
 rw [decide_eq_true_iff]
theorem c8 {k : IntKind} {a b : Int} (h : a = b) : CoR (c5 (.raw (.int k a))) (c5 (.raw (.int k b))) := by
 rw [h]
 exact CoR.refl _
def j7 (n : Nat) : AS := (List.range n).foldl (fun s i => s ||| ((1 : AS) <<< i)) 0
def aq (n : Int) : AS := j7 (min n.toNat 32)
theorem a5i (i : Nat) : j7 (i + 1) = j7 i ||| ((1 : AS) <<< i) := by
 unfold j7
 rw [List.range_succ, List.foldl_append]
 rfl
theorem amu (i : Nat) : ca .or .u32 (asI (j7 i)) (IntKind.wrap .u32 (1 * 2 ^ (min i 32))) = asI (j7 (i + 1)) := by
 have e : IntKind.wrap .u32 (1 * 2 ^ (min i 32)) = asI ((1 : AS) <<< i) := ahn 1 i
 rw [e, bOr, a5i]
end Go.Hx
end
