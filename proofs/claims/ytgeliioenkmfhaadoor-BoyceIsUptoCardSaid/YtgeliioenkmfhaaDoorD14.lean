/- A part of the proof: lemmas for the theorem of this claim, merged by a program of ours out of HxEnv. -/
import Derived.Test.YtgeliioenkmfhaaDoorProg
import Derived.Test.YtgeliioenkmfhaaDoorD13
set_option linter.all false
section
namespace Go.Hx
open Go.Proofs
def TrydTypes : List (Option TI) := [
  none,
  some ⟨.func, 1, 8, some [.nilFunc], false, false⟩,
  some ⟨.int .i64, 1, 8, some [.int .i64 0], false, false⟩,
  some ⟨.int .i64, 1, 8, some [.int .i64 0], false, false⟩,
  some ⟨.bool, 1, 1, some [.bool false], false, false⟩,
  some ⟨.int .u8, 1, 1, some [.int .u8 0], false, false⟩,
  some ⟨.int .u8, 1, 1, some [.int .u8 0], false, false⟩,
  some ⟨.struct [(0, 2, false), (1, 3, false), (2, 4, false), (3, 6, false)], 4, 24, some [.int .i64 0, .int .i64 0, .bool false, .int .u8 0], false, false⟩,
  some ⟨.struct [(0, 2, false), (1, 3, false), (2, 4, false), (3, 6, false)], 4, 24, some [.int .i64 0, .int .i64 0, .bool false, .int .u8 0], false, false⟩,
  some ⟨.string, 1, 16, some [.string ⟨#[]⟩], false, false⟩,
  some ⟨.string, 1, 16, some [.string ⟨#[]⟩], false, false⟩,
  some ⟨.string, 1, 16, some [.string ⟨#[]⟩], false, false⟩,
  some ⟨.int .u64, 1, 8, some [.int .u64 0], false, false⟩,
  none,
  none,
  some ⟨.pointer 142, 1, 8, some [.pointer none], false, false⟩,
  some ⟨.pointer 145, 1, 8, some [.pointer none], false, false⟩,
  some ⟨.pointer 154, 1, 8, some [.pointer none], false, false⟩,
  none,
  none,
  none,
  some ⟨.int .i32, 1, 4, some [.int .i32 0], false, false⟩,
  some ⟨.slice 32, 1, 24, some [.slice none 0 0], false, false⟩,
  some ⟨.func, 1, 8, some [.nilFunc], false, false⟩,
  some ⟨.func, 1, 8, some [.nilFunc], false, false⟩,
  some ⟨.int .i64, 1, 8, some [.int .i64 0], false, false⟩,
  none,
  some ⟨.func, 1, 8, some [.nilFunc], false, false⟩,
  some ⟨.func, 1, 8, some [.nilFunc], false, false⟩,
  some ⟨.int .u32, 1, 4, some [.int .u32 0], false, false⟩,
  some ⟨.int .u32, 1, 4, some [.int .u32 0], false, false⟩,
  some ⟨.struct [(0, 30, false), (1, 30, false)], 2, 8, some [.int .u32 0, .int .u32 0], false, false⟩,
  some ⟨.struct [(0, 30, false), (1, 30, false)], 2, 8, some [.int .u32 0, .int .u32 0], false, false⟩,
  some ⟨.func, 1, 8, some [.nilFunc], false, false⟩,
  none,
  some ⟨.func, 1, 8, some [.nilFunc], false, false⟩,
  some ⟨.func, 1, 8, some [.nilFunc], false, false⟩,
  some ⟨.slice 94, 1, 24, some [.slice none 0 0], false, false⟩,
  some ⟨.struct [(0, 5, false), (1, 37, false)], 2, 32, some [.int .u8 0, .slice none 0 0], false, false⟩,
  some ⟨.struct [(0, 5, false), (1, 37, false)], 2, 32, some [.int .u8 0, .slice none 0 0], false, false⟩,
  none,
  some ⟨.func, 1, 8, some [.nilFunc], false, false⟩,
  some ⟨.func, 1, 8, some [.nilFunc], false, false⟩,
  some ⟨.slice 30, 1, 24, some [.slice none 0 0], false, false⟩,
  none,
  some ⟨.func, 1, 8, some [.nilFunc], false, false⟩,
  some ⟨.func, 1, 8, some [.nilFunc], false, false⟩,
  some ⟨.func, 1, 8, some [.nilFunc], false, false⟩,
  some ⟨.func, 1, 8, some [.nilFunc], false, false⟩,
  some ⟨.func, 1, 8, some [.nilFunc], false, false⟩,
  some ⟨.func, 1, 8, some [.nilFunc], false, false⟩,
  none,
  some ⟨.func, 1, 8, some [.nilFunc], false, false⟩,
  some ⟨.func, 1, 8, some [.nilFunc], false, false⟩,
  none,
  some ⟨.func, 1, 8, some [.nilFunc], false, false⟩,
  some ⟨.func, 1, 8, some [.nilFunc], false, false⟩,
  some ⟨.func, 1, 8, some [.nilFunc], false, false⟩,
  none,
  some ⟨.func, 1, 8, some [.nilFunc], false, false⟩,
  none,
  some ⟨.func, 1, 8, some [.nilFunc], false, false⟩,
  some ⟨.func, 1, 8, some [.nilFunc], false, false⟩,
  some ⟨.func, 1, 8, some [.nilFunc], false, false⟩,
  none,
  some ⟨.func, 1, 8, some [.nilFunc], false, false⟩,
  some ⟨.func, 1, 8, some [.nilFunc], false, false⟩,
  some ⟨.func, 1, 8, some [.nilFunc], false, false⟩,
  some ⟨.func, 1, 8, some [.nilFunc], false, false⟩,
  some ⟨.slice 3, 1, 24, some [.slice none 0 0], false, false⟩,
  some ⟨.func, 1, 8, some [.nilFunc], false, false⟩,
  some ⟨.int .u64, 1, 8, some [.int .u64 0], false, false⟩,
  some ⟨.func, 1, 8, some [.nilFunc], false, false⟩,
  some ⟨.func, 1, 8, some [.nilFunc], false, false⟩,
  some ⟨.func, 1, 8, some [.nilFunc], false, false⟩,
  some ⟨.func, 1, 8, some [.nilFunc], false, false⟩,
  some ⟨.func, 1, 8, some [.nilFunc], false, false⟩,
  some ⟨.func, 1, 8, some [.nilFunc], false, false⟩,
  some ⟨.func, 1, 8, some [.nilFunc], false, false⟩,
  some ⟨.func, 1, 8, some [.nilFunc], false, false⟩,
  some ⟨.func, 1, 8, some [.nilFunc], false, false⟩,
  some ⟨.func, 1, 8, some [.nilFunc], false, false⟩,
  some ⟨.func, 1, 8, some [.nilFunc], false, false⟩,
  some ⟨.func, 1, 8, some [.nilFunc], false, false⟩,
  some ⟨.func, 1, 8, some [.nilFunc], false, false⟩,
  some ⟨.func, 1, 8, some [.nilFunc], false, false⟩,
  some ⟨.func, 1, 8, some [.nilFunc], false, false⟩,
  some ⟨.slice 4, 1, 24, some [.slice none 0 0], false, false⟩,
  some ⟨.func, 1, 8, some [.nilFunc], false, false⟩,
  some ⟨.func, 1, 8, some [.nilFunc], false, false⟩,
  some ⟨.func, 1, 8, some [.nilFunc], false, false⟩,
  some ⟨.func, 1, 8, some [.nilFunc], false, false⟩,
  some ⟨.func, 1, 8, some [.nilFunc], false, false⟩,
  some ⟨.struct [(0, 5, false), (1, 5, false)], 2, 2, some [.int .u8 0, .int .u8 0], false, false⟩,
  some ⟨.struct [(0, 5, false), (1, 5, false)], 2, 2, some [.int .u8 0, .int .u8 0], false, false⟩,
  some ⟨.func, 1, 8, some [.nilFunc], false, false⟩,
  some ⟨.func, 1, 8, some [.nilFunc], false, false⟩,
  some ⟨.func, 1, 8, some [.nilFunc], false, false⟩,
  some ⟨.int .u64, 1, 8, some [.int .u64 0], false, false⟩,
  some ⟨.func, 1, 8, some [.nilFunc], false, false⟩,
  some ⟨.func, 1, 8, some [.nilFunc], false, false⟩,
  some ⟨.func, 1, 8, some [.nilFunc], false, false⟩,
  some ⟨.func, 1, 8, some [.nilFunc], false, false⟩,
  some ⟨.func, 1, 8, some [.nilFunc], false, false⟩,
  some ⟨.func, 1, 8, some [.nilFunc], false, false⟩,
  some ⟨.func, 1, 8, some [.nilFunc], false, false⟩,
  some ⟨.func, 1, 8, some [.nilFunc], false, false⟩,
  some ⟨.map 30 30, 1, 8, some [.map none], false, false⟩,
  none,
  some ⟨.func, 1, 8, some [.nilFunc], false, false⟩,
  some ⟨.func, 1, 8, some [.nilFunc], false, false⟩,
  some ⟨.func, 1, 8, some [.nilFunc], false, false⟩,
  some ⟨.func, 1, 8, some [.nilFunc], false, false⟩,
  some ⟨.func, 1, 8, some [.nilFunc], false, false⟩,
  some ⟨.func, 1, 8, some [.nilFunc], false, false⟩,
  some ⟨.func, 1, 8, some [.nilFunc], false, false⟩,
  some ⟨.func, 1, 8, some [.nilFunc], false, false⟩,
  some ⟨.func, 1, 8, some [.nilFunc], false, false⟩,
  some ⟨.array 32 5, 32, 32, some [.int .u8 0, .int .u8 0, .int .u8 0, .int .u8 0, .int .u8 0, .int .u8 0, .int .u8 0, .int .u8 0, .int .u8 0, .int .u8 0, .int .u8 0, .int .u8 0, .int .u8 0, .int .u8 0, .int .u8 0, .int .u8 0, .int .u8 0, .int .u8 0, .int .u8 0, .int .u8 0, .int .u8 0, .int .u8 0, .int .u8 0, .int .u8 0, .int .u8 0, .int .u8 0, .int .u8 0, .int .u8 0, .int .u8 0, .int .u8 0, .int .u8 0, .int .u8 0], false, false⟩,
  some ⟨.func, 1, 8, some [.nilFunc], false, false⟩,
  some ⟨.slice 22, 1, 24, some [.slice none 0 0], false, false⟩,
  some ⟨.func, 1, 8, some [.nilFunc], false, false⟩,
  some ⟨.int .i64, 1, 8, some [.int .i64 0], false, false⟩,
  none,
  some ⟨.func, 1, 8, some [.nilFunc], false, false⟩,
  some ⟨.func, 1, 8, some [.nilFunc], false, false⟩,
  some ⟨.func, 1, 8, some [.nilFunc], false, false⟩,
  none,
  some ⟨.func, 1, 8, some [.nilFunc], false, false⟩,
  some ⟨.func, 1, 8, some [.nilFunc], false, false⟩,
  some ⟨.func, 1, 8, some [.nilFunc], false, false⟩,
  some ⟨.int .u64, 1, 8, some [.int .u64 0], false, false⟩,
  some ⟨.func, 1, 8, some [.nilFunc], false, false⟩,
  some ⟨.func, 1, 8, some [.nilFunc], false, false⟩,
  some ⟨.func, 1, 8, some [.nilFunc], false, false⟩,
  some ⟨.pointer 3, 1, 8, some [.pointer none], false, false⟩,
  some ⟨.func, 1, 8, some [.nilFunc], false, false⟩,
  some ⟨.pointer 131, 1, 8, some [.pointer none], false, false⟩,
  none,
  some ⟨.func, 1, 8, some [.nilFunc], false, false⟩,
  some ⟨.func, 1, 8, some [.nilFunc], false, false⟩,
  none,
  none,
  some ⟨.array 0 16, 0, 0, some [], false, false⟩,
  none,
  none,
  some ⟨.func, 1, 8, some [.nilFunc], false, false⟩,
  some ⟨.int .u8, 1, 1, some [.int .u8 0], false, false⟩,
  some ⟨.int .u8, 1, 1, some [.int .u8 0], false, false⟩,
  some ⟨.func, 1, 8, some [.nilFunc], false, false⟩,
  some ⟨.pointer 5, 1, 8, some [.pointer none], false, false⟩,
  some ⟨.int .i32, 1, 4, some [.int .i32 0], false, false⟩,
  some ⟨.int .i32, 1, 4, some [.int .i32 0], false, false⟩,
  none,
  none,
  none]
def optOf : List (Option TI) → Nat → Option TI
  | [], _ => none
  | x :: _, 0 => x
  | _ :: r, n + 1 => optOf r n
def TrydE : Env := optOf TrydTypes
def fits (P : Program) : List (Option TI) → Nat → Prop
  | [], _ => True
  | none :: r, n => fits P r (n + 1)
  | some i :: r, n => tiOf P n = some i ∧ fits P r (n + 1)
theorem fits_spec {P : Program} : ∀ {l : List (Option TI)} {n : Nat}, fits P l n → ∀ t i, optOf l t = some i → tiOf P (n + t) = some i
  | [], _, _, t, i, h => by simp [optOf] at h
  | none :: r, n, hf, 0, i, h => by simp [optOf] at h
  | some x :: r, n, hf, 0, i, h => by simp only [optOf, Option.some.injEq] at h; subst h; exact hf.1
  | none :: r, n, hf, t + 1, i, h => by have := fits_spec (l := r) (n := n + 1) hf t i h; rwa [show n + (t + 1) = n + 1 + t by omega]
  | some x :: r, n, hf, t + 1, i, h => by have := fits_spec (l := r) (n := n + 1) hf.2 t i h; rwa [show n + (t + 1) = n + 1 + t by omega]
theorem Trydti1 : tiOf Tryd.prog 1 = some ⟨.func, 1, 8, some [.nilFunc], false, false⟩ := by kernel_rfl
theorem Trydti2 : tiOf Tryd.prog 2 = some ⟨.int .i64, 1, 8, some [.int .i64 0], false, false⟩ := by kernel_rfl
theorem Trydti3 : tiOf Tryd.prog 3 = some ⟨.int .i64, 1, 8, some [.int .i64 0], false, false⟩ := by kernel_rfl
theorem Trydti4 : tiOf Tryd.prog 4 = some ⟨.bool, 1, 1, some [.bool false], false, false⟩ := by kernel_rfl
theorem Trydti5 : tiOf Tryd.prog 5 = some ⟨.int .u8, 1, 1, some [.int .u8 0], false, false⟩ := by kernel_rfl
theorem Trydti6 : tiOf Tryd.prog 6 = some ⟨.int .u8, 1, 1, some [.int .u8 0], false, false⟩ := by kernel_rfl
theorem Trydti7 : tiOf Tryd.prog 7 = some ⟨.struct [(0, 2, false), (1, 3, false), (2, 4, false), (3, 6, false)], 4, 24, some [.int .i64 0, .int .i64 0, .bool false, .int .u8 0], false, false⟩ := by kernel_rfl
theorem Trydti8 : tiOf Tryd.prog 8 = some ⟨.struct [(0, 2, false), (1, 3, false), (2, 4, false), (3, 6, false)], 4, 24, some [.int .i64 0, .int .i64 0, .bool false, .int .u8 0], false, false⟩ := by kernel_rfl
theorem Trydti9 : tiOf Tryd.prog 9 = some ⟨.string, 1, 16, some [.string ⟨#[]⟩], false, false⟩ := by kernel_rfl
theorem Trydti10 : tiOf Tryd.prog 10 = some ⟨.string, 1, 16, some [.string ⟨#[]⟩], false, false⟩ := by kernel_rfl
theorem Trydti11 : tiOf Tryd.prog 11 = some ⟨.string, 1, 16, some [.string ⟨#[]⟩], false, false⟩ := by kernel_rfl
theorem Trydti12 : tiOf Tryd.prog 12 = some ⟨.int .u64, 1, 8, some [.int .u64 0], false, false⟩ := by kernel_rfl
theorem Trydti15 : tiOf Tryd.prog 15 = some ⟨.pointer 142, 1, 8, some [.pointer none], false, false⟩ := by kernel_rfl
theorem Trydti16 : tiOf Tryd.prog 16 = some ⟨.pointer 145, 1, 8, some [.pointer none], false, false⟩ := by kernel_rfl
theorem Trydti17 : tiOf Tryd.prog 17 = some ⟨.pointer 154, 1, 8, some [.pointer none], false, false⟩ := by kernel_rfl
theorem Trydti21 : tiOf Tryd.prog 21 = some ⟨.int .i32, 1, 4, some [.int .i32 0], false, false⟩ := by kernel_rfl
theorem Trydti22 : tiOf Tryd.prog 22 = some ⟨.slice 32, 1, 24, some [.slice none 0 0], false, false⟩ := by kernel_rfl
theorem Trydti23 : tiOf Tryd.prog 23 = some ⟨.func, 1, 8, some [.nilFunc], false, false⟩ := by kernel_rfl
theorem Trydti24 : tiOf Tryd.prog 24 = some ⟨.func, 1, 8, some [.nilFunc], false, false⟩ := by kernel_rfl
theorem Trydti25 : tiOf Tryd.prog 25 = some ⟨.int .i64, 1, 8, some [.int .i64 0], false, false⟩ := by kernel_rfl
theorem Trydti27 : tiOf Tryd.prog 27 = some ⟨.func, 1, 8, some [.nilFunc], false, false⟩ := by kernel_rfl
theorem Trydti28 : tiOf Tryd.prog 28 = some ⟨.func, 1, 8, some [.nilFunc], false, false⟩ := by kernel_rfl
theorem Trydti29 : tiOf Tryd.prog 29 = some ⟨.int .u32, 1, 4, some [.int .u32 0], false, false⟩ := by kernel_rfl
theorem Trydti30 : tiOf Tryd.prog 30 = some ⟨.int .u32, 1, 4, some [.int .u32 0], false, false⟩ := by kernel_rfl
theorem Trydti31 : tiOf Tryd.prog 31 = some ⟨.struct [(0, 30, false), (1, 30, false)], 2, 8, some [.int .u32 0, .int .u32 0], false, false⟩ := by kernel_rfl
theorem Trydti32 : tiOf Tryd.prog 32 = some ⟨.struct [(0, 30, false), (1, 30, false)], 2, 8, some [.int .u32 0, .int .u32 0], false, false⟩ := by kernel_rfl
theorem Trydti33 : tiOf Tryd.prog 33 = some ⟨.func, 1, 8, some [.nilFunc], false, false⟩ := by kernel_rfl
theorem Trydti35 : tiOf Tryd.prog 35 = some ⟨.func, 1, 8, some [.nilFunc], false, false⟩ := by kernel_rfl
theorem Trydti36 : tiOf Tryd.prog 36 = some ⟨.func, 1, 8, some [.nilFunc], false, false⟩ := by kernel_rfl
theorem Trydti37 : tiOf Tryd.prog 37 = some ⟨.slice 94, 1, 24, some [.slice none 0 0], false, false⟩ := by kernel_rfl
theorem Trydti38 : tiOf Tryd.prog 38 = some ⟨.struct [(0, 5, false), (1, 37, false)], 2, 32, some [.int .u8 0, .slice none 0 0], false, false⟩ := by kernel_rfl
theorem Trydti39 : tiOf Tryd.prog 39 = some ⟨.struct [(0, 5, false), (1, 37, false)], 2, 32, some [.int .u8 0, .slice none 0 0], false, false⟩ := by kernel_rfl
theorem Trydti41 : tiOf Tryd.prog 41 = some ⟨.func, 1, 8, some [.nilFunc], false, false⟩ := by kernel_rfl
theorem Trydti42 : tiOf Tryd.prog 42 = some ⟨.func, 1, 8, some [.nilFunc], false, false⟩ := by kernel_rfl
theorem Trydti43 : tiOf Tryd.prog 43 = some ⟨.slice 30, 1, 24, some [.slice none 0 0], false, false⟩ := by kernel_rfl
theorem Trydti45 : tiOf Tryd.prog 45 = some ⟨.func, 1, 8, some [.nilFunc], false, false⟩ := by kernel_rfl
theorem Trydti46 : tiOf Tryd.prog 46 = some ⟨.func, 1, 8, some [.nilFunc], false, false⟩ := by kernel_rfl
theorem Trydti47 : tiOf Tryd.prog 47 = some ⟨.func, 1, 8, some [.nilFunc], false, false⟩ := by kernel_rfl
theorem Trydti48 : tiOf Tryd.prog 48 = some ⟨.func, 1, 8, some [.nilFunc], false, false⟩ := by kernel_rfl
theorem Trydti49 : tiOf Tryd.prog 49 = some ⟨.func, 1, 8, some [.nilFunc], false, false⟩ := by kernel_rfl
theorem Trydti50 : tiOf Tryd.prog 50 = some ⟨.func, 1, 8, some [.nilFunc], false, false⟩ := by kernel_rfl
theorem Trydti52 : tiOf Tryd.prog 52 = some ⟨.func, 1, 8, some [.nilFunc], false, false⟩ := by kernel_rfl
theorem Trydti53 : tiOf Tryd.prog 53 = some ⟨.func, 1, 8, some [.nilFunc], false, false⟩ := by kernel_rfl
theorem Trydti55 : tiOf Tryd.prog 55 = some ⟨.func, 1, 8, some [.nilFunc], false, false⟩ := by kernel_rfl
theorem Trydti56 : tiOf Tryd.prog 56 = some ⟨.func, 1, 8, some [.nilFunc], false, false⟩ := by kernel_rfl
theorem Trydti57 : tiOf Tryd.prog 57 = some ⟨.func, 1, 8, some [.nilFunc], false, false⟩ := by kernel_rfl
theorem Trydti59 : tiOf Tryd.prog 59 = some ⟨.func, 1, 8, some [.nilFunc], false, false⟩ := by kernel_rfl
theorem Trydti61 : tiOf Tryd.prog 61 = some ⟨.func, 1, 8, some [.nilFunc], false, false⟩ := by kernel_rfl
theorem Trydti62 : tiOf Tryd.prog 62 = some ⟨.func, 1, 8, some [.nilFunc], false, false⟩ := by kernel_rfl
theorem Trydti63 : tiOf Tryd.prog 63 = some ⟨.func, 1, 8, some [.nilFunc], false, false⟩ := by kernel_rfl
theorem Trydti65 : tiOf Tryd.prog 65 = some ⟨.func, 1, 8, some [.nilFunc], false, false⟩ := by kernel_rfl
theorem Trydti66 : tiOf Tryd.prog 66 = some ⟨.func, 1, 8, some [.nilFunc], false, false⟩ := by kernel_rfl
theorem Trydti67 : tiOf Tryd.prog 67 = some ⟨.func, 1, 8, some [.nilFunc], false, false⟩ := by kernel_rfl
theorem Trydti68 : tiOf Tryd.prog 68 = some ⟨.func, 1, 8, some [.nilFunc], false, false⟩ := by kernel_rfl
theorem Trydti69 : tiOf Tryd.prog 69 = some ⟨.slice 3, 1, 24, some [.slice none 0 0], false, false⟩ := by kernel_rfl
theorem Trydti70 : tiOf Tryd.prog 70 = some ⟨.func, 1, 8, some [.nilFunc], false, false⟩ := by kernel_rfl
theorem Trydti71 : tiOf Tryd.prog 71 = some ⟨.int .u64, 1, 8, some [.int .u64 0], false, false⟩ := by kernel_rfl
theorem Trydti72 : tiOf Tryd.prog 72 = some ⟨.func, 1, 8, some [.nilFunc], false, false⟩ := by kernel_rfl
theorem Trydti73 : tiOf Tryd.prog 73 = some ⟨.func, 1, 8, some [.nilFunc], false, false⟩ := by kernel_rfl
theorem Trydti74 : tiOf Tryd.prog 74 = some ⟨.func, 1, 8, some [.nilFunc], false, false⟩ := by kernel_rfl
theorem Trydti75 : tiOf Tryd.prog 75 = some ⟨.func, 1, 8, some [.nilFunc], false, false⟩ := by kernel_rfl
theorem Trydti76 : tiOf Tryd.prog 76 = some ⟨.func, 1, 8, some [.nilFunc], false, false⟩ := by kernel_rfl
theorem Trydti77 : tiOf Tryd.prog 77 = some ⟨.func, 1, 8, some [.nilFunc], false, false⟩ := by kernel_rfl
theorem Trydti78 : tiOf Tryd.prog 78 = some ⟨.func, 1, 8, some [.nilFunc], false, false⟩ := by kernel_rfl
theorem Trydti79 : tiOf Tryd.prog 79 = some ⟨.func, 1, 8, some [.nilFunc], false, false⟩ := by kernel_rfl
theorem Trydti80 : tiOf Tryd.prog 80 = some ⟨.func, 1, 8, some [.nilFunc], false, false⟩ := by kernel_rfl
theorem Trydti81 : tiOf Tryd.prog 81 = some ⟨.func, 1, 8, some [.nilFunc], false, false⟩ := by kernel_rfl
theorem Trydti82 : tiOf Tryd.prog 82 = some ⟨.func, 1, 8, some [.nilFunc], false, false⟩ := by kernel_rfl
theorem Trydti83 : tiOf Tryd.prog 83 = some ⟨.func, 1, 8, some [.nilFunc], false, false⟩ := by kernel_rfl
theorem Trydti84 : tiOf Tryd.prog 84 = some ⟨.func, 1, 8, some [.nilFunc], false, false⟩ := by kernel_rfl
theorem Trydti85 : tiOf Tryd.prog 85 = some ⟨.func, 1, 8, some [.nilFunc], false, false⟩ := by kernel_rfl
theorem Trydti86 : tiOf Tryd.prog 86 = some ⟨.func, 1, 8, some [.nilFunc], false, false⟩ := by kernel_rfl
theorem Trydti87 : tiOf Tryd.prog 87 = some ⟨.slice 4, 1, 24, some [.slice none 0 0], false, false⟩ := by kernel_rfl
theorem Trydti88 : tiOf Tryd.prog 88 = some ⟨.func, 1, 8, some [.nilFunc], false, false⟩ := by kernel_rfl
theorem Trydti89 : tiOf Tryd.prog 89 = some ⟨.func, 1, 8, some [.nilFunc], false, false⟩ := by kernel_rfl
theorem Trydti90 : tiOf Tryd.prog 90 = some ⟨.func, 1, 8, some [.nilFunc], false, false⟩ := by kernel_rfl
theorem Trydti91 : tiOf Tryd.prog 91 = some ⟨.func, 1, 8, some [.nilFunc], false, false⟩ := by kernel_rfl
theorem Trydti92 : tiOf Tryd.prog 92 = some ⟨.func, 1, 8, some [.nilFunc], false, false⟩ := by kernel_rfl
theorem Trydti93 : tiOf Tryd.prog 93 = some ⟨.struct [(0, 5, false), (1, 5, false)], 2, 2, some [.int .u8 0, .int .u8 0], false, false⟩ := by kernel_rfl
theorem Trydti94 : tiOf Tryd.prog 94 = some ⟨.struct [(0, 5, false), (1, 5, false)], 2, 2, some [.int .u8 0, .int .u8 0], false, false⟩ := by kernel_rfl
theorem Trydti95 : tiOf Tryd.prog 95 = some ⟨.func, 1, 8, some [.nilFunc], false, false⟩ := by kernel_rfl
theorem Trydti96 : tiOf Tryd.prog 96 = some ⟨.func, 1, 8, some [.nilFunc], false, false⟩ := by kernel_rfl
theorem Trydti97 : tiOf Tryd.prog 97 = some ⟨.func, 1, 8, some [.nilFunc], false, false⟩ := by kernel_rfl
theorem Trydti98 : tiOf Tryd.prog 98 = some ⟨.int .u64, 1, 8, some [.int .u64 0], false, false⟩ := by kernel_rfl
theorem Trydti99 : tiOf Tryd.prog 99 = some ⟨.func, 1, 8, some [.nilFunc], false, false⟩ := by kernel_rfl
theorem Trydti100 : tiOf Tryd.prog 100 = some ⟨.func, 1, 8, some [.nilFunc], false, false⟩ := by kernel_rfl
theorem Trydti101 : tiOf Tryd.prog 101 = some ⟨.func, 1, 8, some [.nilFunc], false, false⟩ := by kernel_rfl
theorem Trydti102 : tiOf Tryd.prog 102 = some ⟨.func, 1, 8, some [.nilFunc], false, false⟩ := by kernel_rfl
theorem Trydti103 : tiOf Tryd.prog 103 = some ⟨.func, 1, 8, some [.nilFunc], false, false⟩ := by kernel_rfl
theorem Trydti104 : tiOf Tryd.prog 104 = some ⟨.func, 1, 8, some [.nilFunc], false, false⟩ := by kernel_rfl
theorem Trydti105 : tiOf Tryd.prog 105 = some ⟨.func, 1, 8, some [.nilFunc], false, false⟩ := by kernel_rfl
theorem Trydti106 : tiOf Tryd.prog 106 = some ⟨.func, 1, 8, some [.nilFunc], false, false⟩ := by kernel_rfl
theorem Trydti107 : tiOf Tryd.prog 107 = some ⟨.map 30 30, 1, 8, some [.map none], false, false⟩ := by kernel_rfl
theorem Trydti109 : tiOf Tryd.prog 109 = some ⟨.func, 1, 8, some [.nilFunc], false, false⟩ := by kernel_rfl
theorem Trydti110 : tiOf Tryd.prog 110 = some ⟨.func, 1, 8, some [.nilFunc], false, false⟩ := by kernel_rfl
theorem Trydti111 : tiOf Tryd.prog 111 = some ⟨.func, 1, 8, some [.nilFunc], false, false⟩ := by kernel_rfl
theorem Trydti112 : tiOf Tryd.prog 112 = some ⟨.func, 1, 8, some [.nilFunc], false, false⟩ := by kernel_rfl
theorem Trydti113 : tiOf Tryd.prog 113 = some ⟨.func, 1, 8, some [.nilFunc], false, false⟩ := by kernel_rfl
theorem Trydti114 : tiOf Tryd.prog 114 = some ⟨.func, 1, 8, some [.nilFunc], false, false⟩ := by kernel_rfl
theorem Trydti115 : tiOf Tryd.prog 115 = some ⟨.func, 1, 8, some [.nilFunc], false, false⟩ := by kernel_rfl
theorem Trydti116 : tiOf Tryd.prog 116 = some ⟨.func, 1, 8, some [.nilFunc], false, false⟩ := by kernel_rfl
theorem Trydti117 : tiOf Tryd.prog 117 = some ⟨.func, 1, 8, some [.nilFunc], false, false⟩ := by kernel_rfl
theorem Trydti118 : tiOf Tryd.prog 118 = some ⟨.array 32 5, 32, 32, some [.int .u8 0, .int .u8 0, .int .u8 0, .int .u8 0, .int .u8 0, .int .u8 0, .int .u8 0, .int .u8 0, .int .u8 0, .int .u8 0, .int .u8 0, .int .u8 0, .int .u8 0, .int .u8 0, .int .u8 0, .int .u8 0, .int .u8 0, .int .u8 0, .int .u8 0, .int .u8 0, .int .u8 0, .int .u8 0, .int .u8 0, .int .u8 0, .int .u8 0, .int .u8 0, .int .u8 0, .int .u8 0, .int .u8 0, .int .u8 0, .int .u8 0, .int .u8 0], false, false⟩ := by kernel_rfl
theorem Trydti119 : tiOf Tryd.prog 119 = some ⟨.func, 1, 8, some [.nilFunc], false, false⟩ := by kernel_rfl
theorem Trydti120 : tiOf Tryd.prog 120 = some ⟨.slice 22, 1, 24, some [.slice none 0 0], false, false⟩ := by kernel_rfl
theorem Trydti121 : tiOf Tryd.prog 121 = some ⟨.func, 1, 8, some [.nilFunc], false, false⟩ := by kernel_rfl
theorem Trydti122 : tiOf Tryd.prog 122 = some ⟨.int .i64, 1, 8, some [.int .i64 0], false, false⟩ := by kernel_rfl
theorem Trydti124 : tiOf Tryd.prog 124 = some ⟨.func, 1, 8, some [.nilFunc], false, false⟩ := by kernel_rfl
theorem Trydti125 : tiOf Tryd.prog 125 = some ⟨.func, 1, 8, some [.nilFunc], false, false⟩ := by kernel_rfl
theorem Trydti126 : tiOf Tryd.prog 126 = some ⟨.func, 1, 8, some [.nilFunc], false, false⟩ := by kernel_rfl
theorem Trydti128 : tiOf Tryd.prog 128 = some ⟨.func, 1, 8, some [.nilFunc], false, false⟩ := by kernel_rfl
theorem Trydti129 : tiOf Tryd.prog 129 = some ⟨.func, 1, 8, some [.nilFunc], false, false⟩ := by kernel_rfl
theorem Trydti130 : tiOf Tryd.prog 130 = some ⟨.func, 1, 8, some [.nilFunc], false, false⟩ := by kernel_rfl
theorem Trydti131 : tiOf Tryd.prog 131 = some ⟨.int .u64, 1, 8, some [.int .u64 0], false, false⟩ := by kernel_rfl
theorem Trydti132 : tiOf Tryd.prog 132 = some ⟨.func, 1, 8, some [.nilFunc], false, false⟩ := by kernel_rfl
theorem Trydti133 : tiOf Tryd.prog 133 = some ⟨.func, 1, 8, some [.nilFunc], false, false⟩ := by kernel_rfl
theorem Trydti134 : tiOf Tryd.prog 134 = some ⟨.func, 1, 8, some [.nilFunc], false, false⟩ := by kernel_rfl
theorem Trydti135 : tiOf Tryd.prog 135 = some ⟨.pointer 3, 1, 8, some [.pointer none], false, false⟩ := by kernel_rfl
theorem Trydti136 : tiOf Tryd.prog 136 = some ⟨.func, 1, 8, some [.nilFunc], false, false⟩ := by kernel_rfl
theorem Trydti137 : tiOf Tryd.prog 137 = some ⟨.pointer 131, 1, 8, some [.pointer none], false, false⟩ := by kernel_rfl
theorem Trydti139 : tiOf Tryd.prog 139 = some ⟨.func, 1, 8, some [.nilFunc], false, false⟩ := by kernel_rfl
theorem Trydti140 : tiOf Tryd.prog 140 = some ⟨.func, 1, 8, some [.nilFunc], false, false⟩ := by kernel_rfl
theorem Trydti143 : tiOf Tryd.prog 143 = some ⟨.array 0 16, 0, 0, some [], false, false⟩ := by kernel_rfl
theorem Trydti146 : tiOf Tryd.prog 146 = some ⟨.func, 1, 8, some [.nilFunc], false, false⟩ := by kernel_rfl
theorem Trydti147 : tiOf Tryd.prog 147 = some ⟨.int .u8, 1, 1, some [.int .u8 0], false, false⟩ := by kernel_rfl
theorem Trydti148 : tiOf Tryd.prog 148 = some ⟨.int .u8, 1, 1, some [.int .u8 0], false, false⟩ := by kernel_rfl
theorem Trydti149 : tiOf Tryd.prog 149 = some ⟨.func, 1, 8, some [.nilFunc], false, false⟩ := by kernel_rfl
theorem Trydti150 : tiOf Tryd.prog 150 = some ⟨.pointer 5, 1, 8, some [.pointer none], false, false⟩ := by kernel_rfl
theorem Trydti151 : tiOf Tryd.prog 151 = some ⟨.int .i32, 1, 4, some [.int .i32 0], false, false⟩ := by kernel_rfl
theorem Trydti152 : tiOf Tryd.prog 152 = some ⟨.int .i32, 1, 4, some [.int .i32 0], false, false⟩ := by kernel_rfl
theorem Trydfits : fits Tryd.prog TrydTypes 0 := ⟨Trydti1, ⟨Trydti2, ⟨Trydti3, ⟨Trydti4, ⟨Trydti5, ⟨Trydti6, ⟨Trydti7, ⟨Trydti8, ⟨Trydti9, ⟨Trydti10, ⟨Trydti11, ⟨Trydti12, ⟨Trydti15, ⟨Trydti16, ⟨Trydti17, ⟨Trydti21, ⟨Trydti22, ⟨Trydti23, ⟨Trydti24, ⟨Trydti25, ⟨Trydti27, ⟨Trydti28, ⟨Trydti29, ⟨Trydti30, ⟨Trydti31, ⟨Trydti32, ⟨Trydti33, ⟨Trydti35, ⟨Trydti36, ⟨Trydti37, ⟨Trydti38, ⟨Trydti39, ⟨Trydti41, ⟨Trydti42, ⟨Trydti43, ⟨Trydti45, ⟨Trydti46, ⟨Trydti47, ⟨Trydti48, ⟨Trydti49, ⟨Trydti50, ⟨Trydti52, ⟨Trydti53, ⟨Trydti55, ⟨Trydti56, ⟨Trydti57, ⟨Trydti59, ⟨Trydti61, ⟨Trydti62, ⟨Trydti63, ⟨Trydti65, ⟨Trydti66, ⟨Trydti67, ⟨Trydti68, ⟨Trydti69, ⟨Trydti70, ⟨Trydti71, ⟨Trydti72, ⟨Trydti73, ⟨Trydti74, ⟨Trydti75, ⟨Trydti76, ⟨Trydti77, ⟨Trydti78, ⟨Trydti79, ⟨Trydti80, ⟨Trydti81, ⟨Trydti82, ⟨Trydti83, ⟨Trydti84, ⟨Trydti85, ⟨Trydti86, ⟨Trydti87, ⟨Trydti88, ⟨Trydti89, ⟨Trydti90, ⟨Trydti91, ⟨Trydti92, ⟨Trydti93, ⟨Trydti94, ⟨Trydti95, ⟨Trydti96, ⟨Trydti97, ⟨Trydti98, ⟨Trydti99, ⟨Trydti100, ⟨Trydti101, ⟨Trydti102, ⟨Trydti103, ⟨Trydti104, ⟨Trydti105, ⟨Trydti106, ⟨Trydti107, ⟨Trydti109, ⟨Trydti110, ⟨Trydti111, ⟨Trydti112, ⟨Trydti113, ⟨Trydti114, ⟨Trydti115, ⟨Trydti116, ⟨Trydti117, ⟨Trydti118, ⟨Trydti119, ⟨Trydti120, ⟨Trydti121, ⟨Trydti122, ⟨Trydti124, ⟨Trydti125, ⟨Trydti126, ⟨Trydti128, ⟨Trydti129, ⟨Trydti130, ⟨Trydti131, ⟨Trydti132, ⟨Trydti133, ⟨Trydti134, ⟨Trydti135, ⟨Trydti136, ⟨Trydti137, ⟨Trydti139, ⟨Trydti140, ⟨Trydti143, ⟨Trydti146, ⟨Trydti147, ⟨Trydti148, ⟨Trydti149, ⟨Trydti150, ⟨Trydti151, ⟨Trydti152, trivial⟩⟩⟩⟩⟩⟩⟩⟩⟩⟩⟩⟩⟩⟩⟩⟩⟩⟩⟩⟩⟩⟩⟩⟩⟩⟩⟩⟩⟩⟩⟩⟩⟩⟩⟩⟩⟩⟩⟩⟩⟩⟩⟩⟩⟩⟩⟩⟩⟩⟩⟩⟩⟩⟩⟩⟩⟩⟩⟩⟩⟩⟩⟩⟩⟩⟩⟩⟩⟩⟩⟩⟩⟩⟩⟩⟩⟩⟩⟩⟩⟩⟩⟩⟩⟩⟩⟩⟩⟩⟩⟩⟩⟩⟩⟩⟩⟩⟩⟩⟩⟩⟩⟩⟩⟩⟩⟩⟩⟩⟩⟩⟩⟩⟩⟩⟩⟩⟩⟩⟩⟩⟩⟩⟩⟩⟩⟩⟩⟩⟩
theorem Trydok : EnvOk Tryd.prog TrydE := fun t i h => by
  have := fits_spec Trydfits t i h
  rwa [Nat.zero_add] at this
theorem Trydmixed : Tryd.prog.follows .mixedOrders = true := by kernel_rfl
end Go.Hx
end
