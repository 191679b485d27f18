/- A part of the proof: lemmas for the theorem of this claim, merged by a program of ours out of HxEnv, Hx23, Cs1, Cs3, V1. -/
import Derived.Test.YtididbpiikfaiaaDoorProg
import Derived.Test.YtididbpiikfaiaaDoorE15
set_option linter.all false
section
namespace Go.Hx
open Go.Proofs
def TrydTypes : List (Option TI) := [
  none,
  some ⟨.func, 1, 8, some [.nilFunc], false, false, true⟩,
  some ⟨.int .i64, 1, 8, some [.int .i64 0], false, false, true⟩,
  some ⟨.int .i64, 1, 8, some [.int .i64 0], false, false, true⟩,
  some ⟨.bool, 1, 1, some [.bool false], false, false, true⟩,
  some ⟨.int .u8, 1, 1, some [.int .u8 0], false, false, true⟩,
  some ⟨.int .u8, 1, 1, some [.int .u8 0], false, false, true⟩,
  some ⟨.struct [(0, 2, false), (1, 3, false), (2, 4, false), (3, 6, false)], 4, 24, some [.int .i64 0, .int .i64 0, .bool false, .int .u8 0], false, false, false⟩,
  some ⟨.struct [(0, 2, false), (1, 3, false), (2, 4, false), (3, 6, false)], 4, 24, some [.int .i64 0, .int .i64 0, .bool false, .int .u8 0], false, false, false⟩,
  some ⟨.string, 1, 16, some [.string ⟨#[]⟩], false, false, true⟩,
  some ⟨.string, 1, 16, some [.string ⟨#[]⟩], false, false, true⟩,
  some ⟨.string, 1, 16, some [.string ⟨#[]⟩], false, false, true⟩,
  some ⟨.int .u64, 1, 8, some [.int .u64 0], false, false, true⟩,
  none,
  none,
  some ⟨.pointer 125, 1, 8, some [.pointer none], false, false, true⟩,
  some ⟨.pointer 128, 1, 8, some [.pointer none], false, false, true⟩,
  some ⟨.pointer 137, 1, 8, some [.pointer none], false, false, true⟩,
  none,
  none,
  none,
  some ⟨.int .i32, 1, 4, some [.int .i32 0], false, false, true⟩,
  some ⟨.slice 25, 1, 24, some [.slice none 0 0], false, false, true⟩,
  some ⟨.struct [(0, 3, false), (1, 22, false)], 2, 32, some [.int .i64 0, .slice none 0 0], false, false, false⟩,
  some ⟨.struct [(0, 3, false), (1, 22, false)], 2, 32, some [.int .i64 0, .slice none 0 0], false, false, false⟩,
  some ⟨.slice 3, 1, 24, some [.slice none 0 0], false, false, true⟩,
  some ⟨.func, 1, 8, some [.nilFunc], false, false, true⟩,
  some ⟨.func, 1, 8, some [.nilFunc], false, false, true⟩,
  some ⟨.func, 1, 8, some [.nilFunc], false, false, true⟩,
  some ⟨.func, 1, 8, some [.nilFunc], false, false, true⟩,
  some ⟨.func, 1, 8, some [.nilFunc], false, false, true⟩,
  some ⟨.slice 33, 1, 24, some [.slice none 0 0], false, false, true⟩,
  some ⟨.slice 34, 1, 24, some [.slice none 0 0], false, false, true⟩,
  some ⟨.int .u32, 1, 4, some [.int .u32 0], false, false, true⟩,
  some ⟨.int .u32, 1, 4, some [.int .u32 0], false, false, true⟩,
  some ⟨.int .i64, 1, 8, some [.int .i64 0], false, false, true⟩,
  none,
  some ⟨.func, 1, 8, some [.nilFunc], false, false, true⟩,
  some ⟨.func, 1, 8, some [.nilFunc], false, false, true⟩,
  some ⟨.func, 1, 8, some [.nilFunc], false, false, true⟩,
  some ⟨.func, 1, 8, some [.nilFunc], false, false, true⟩,
  some ⟨.slice 57, 1, 24, some [.slice none 0 0], false, false, true⟩,
  some ⟨.slice 5, 1, 24, some [.slice none 0 0], false, false, true⟩,
  some ⟨.struct [(0, 5, false), (1, 41, false), (2, 41, false), (3, 42, false)], 4, 80, some [.int .u8 0, .slice none 0 0, .slice none 0 0, .slice none 0 0], false, false, false⟩,
  some ⟨.struct [(0, 5, false), (1, 41, false), (2, 41, false), (3, 42, false)], 4, 80, some [.int .u8 0, .slice none 0 0, .slice none 0 0, .slice none 0 0], false, false, false⟩,
  some ⟨.slice 69, 1, 24, some [.slice none 0 0], false, false, true⟩,
  some ⟨.slice 59, 1, 24, some [.slice none 0 0], false, false, true⟩,
  none,
  some ⟨.func, 1, 8, some [.nilFunc], false, false, true⟩,
  some ⟨.slice 55, 1, 24, some [.slice none 0 0], false, false, true⟩,
  none,
  some ⟨.func, 1, 8, some [.nilFunc], false, false, true⟩,
  some ⟨.func, 1, 8, some [.nilFunc], false, false, true⟩,
  some ⟨.func, 1, 8, some [.nilFunc], false, false, true⟩,
  some ⟨.struct [(0, 4, false), (1, 3, false), (2, 3, false), (3, 3, false)], 4, 32, some [.bool false, .int .i64 0, .int .i64 0, .int .i64 0], false, false, false⟩,
  some ⟨.struct [(0, 4, false), (1, 3, false), (2, 3, false), (3, 3, false)], 4, 32, some [.bool false, .int .i64 0, .int .i64 0, .int .i64 0], false, false, false⟩,
  some ⟨.func, 1, 8, some [.nilFunc], false, false, true⟩,
  some ⟨.array 2 5, 2, 2, some [.int .u8 0, .int .u8 0], false, false, false⟩,
  some ⟨.struct [(0, 34, false), (1, 34, false)], 2, 8, some [.int .u32 0, .int .u32 0], false, false, false⟩,
  some ⟨.struct [(0, 34, false), (1, 34, false)], 2, 8, some [.int .u32 0, .int .u32 0], false, false, false⟩,
  none,
  some ⟨.func, 1, 8, some [.nilFunc], false, false, true⟩,
  some ⟨.func, 1, 8, some [.nilFunc], false, false, true⟩,
  some ⟨.func, 1, 8, some [.nilFunc], false, false, true⟩,
  some ⟨.func, 1, 8, some [.nilFunc], false, false, true⟩,
  some ⟨.func, 1, 8, some [.nilFunc], false, false, true⟩,
  some ⟨.func, 1, 8, some [.nilFunc], false, false, true⟩,
  some ⟨.func, 1, 8, some [.nilFunc], false, false, true⟩,
  some ⟨.func, 1, 8, some [.nilFunc], false, false, true⟩,
  some ⟨.struct [(0, 34, false), (1, 34, false)], 2, 8, some [.int .u32 0, .int .u32 0], false, false, false⟩,
  some ⟨.func, 1, 8, some [.nilFunc], false, false, true⟩,
  some ⟨.func, 1, 8, some [.nilFunc], false, false, true⟩,
  some ⟨.func, 1, 8, some [.nilFunc], false, false, true⟩,
  some ⟨.func, 1, 8, some [.nilFunc], false, false, true⟩,
  some ⟨.func, 1, 8, some [.nilFunc], false, false, true⟩,
  some ⟨.func, 1, 8, some [.nilFunc], false, false, true⟩,
  some ⟨.func, 1, 8, some [.nilFunc], false, false, true⟩,
  some ⟨.func, 1, 8, some [.nilFunc], false, false, true⟩,
  some ⟨.func, 1, 8, some [.nilFunc], false, false, true⟩,
  some ⟨.func, 1, 8, some [.nilFunc], false, false, true⟩,
  none,
  some ⟨.func, 1, 8, some [.nilFunc], false, false, true⟩,
  some ⟨.func, 1, 8, some [.nilFunc], false, false, true⟩,
  some ⟨.func, 1, 8, some [.nilFunc], false, false, true⟩,
  some ⟨.func, 1, 8, some [.nilFunc], false, false, true⟩,
  some ⟨.func, 1, 8, some [.nilFunc], false, false, true⟩,
  some ⟨.func, 1, 8, some [.nilFunc], false, false, true⟩,
  some ⟨.func, 1, 8, some [.nilFunc], false, false, true⟩,
  some ⟨.func, 1, 8, some [.nilFunc], false, false, true⟩,
  some ⟨.func, 1, 8, some [.nilFunc], false, false, true⟩,
  some ⟨.func, 1, 8, some [.nilFunc], false, false, true⟩,
  some ⟨.func, 1, 8, some [.nilFunc], false, false, true⟩,
  some ⟨.func, 1, 8, some [.nilFunc], false, false, true⟩,
  some ⟨.func, 1, 8, some [.nilFunc], false, false, true⟩,
  some ⟨.func, 1, 8, some [.nilFunc], false, false, true⟩,
  some ⟨.func, 1, 8, some [.nilFunc], false, false, true⟩,
  some ⟨.func, 1, 8, some [.nilFunc], false, false, true⟩,
  some ⟨.func, 1, 8, some [.nilFunc], false, false, true⟩,
  some ⟨.func, 1, 8, some [.nilFunc], false, false, true⟩,
  some ⟨.func, 1, 8, some [.nilFunc], false, false, true⟩,
  some ⟨.int .u64, 1, 8, some [.int .u64 0], false, false, true⟩,
  some ⟨.func, 1, 8, some [.nilFunc], false, false, true⟩,
  some ⟨.func, 1, 8, some [.nilFunc], false, false, true⟩,
  some ⟨.int .i64, 1, 8, some [.int .i64 0], false, false, true⟩,
  none,
  some ⟨.func, 1, 8, some [.nilFunc], false, false, true⟩,
  some ⟨.func, 1, 8, some [.nilFunc], false, false, true⟩,
  some ⟨.func, 1, 8, some [.nilFunc], false, false, true⟩,
  none,
  some ⟨.func, 1, 8, some [.nilFunc], false, false, true⟩,
  some ⟨.func, 1, 8, some [.nilFunc], false, false, true⟩,
  some ⟨.func, 1, 8, some [.nilFunc], false, false, true⟩,
  some ⟨.int .u64, 1, 8, some [.int .u64 0], false, false, true⟩,
  some ⟨.int .u64, 1, 8, some [.int .u64 0], false, false, true⟩,
  some ⟨.func, 1, 8, some [.nilFunc], false, false, true⟩,
  some ⟨.func, 1, 8, some [.nilFunc], false, false, true⟩,
  some ⟨.func, 1, 8, some [.nilFunc], false, false, true⟩,
  some ⟨.pointer 3, 1, 8, some [.pointer none], false, false, true⟩,
  some ⟨.func, 1, 8, some [.nilFunc], false, false, true⟩,
  some ⟨.array 32 5, 32, 32, some [.int .u8 0, .int .u8 0, .int .u8 0, .int .u8 0, .int .u8 0, .int .u8 0, .int .u8 0, .int .u8 0, .int .u8 0, .int .u8 0, .int .u8 0, .int .u8 0, .int .u8 0, .int .u8 0, .int .u8 0, .int .u8 0, .int .u8 0, .int .u8 0, .int .u8 0, .int .u8 0, .int .u8 0, .int .u8 0, .int .u8 0, .int .u8 0, .int .u8 0, .int .u8 0, .int .u8 0, .int .u8 0, .int .u8 0, .int .u8 0, .int .u8 0, .int .u8 0], false, false, false⟩,
  some ⟨.pointer 113, 1, 8, some [.pointer none], false, false, true⟩,
  none,
  some ⟨.func, 1, 8, some [.nilFunc], false, false, true⟩,
  some ⟨.func, 1, 8, some [.nilFunc], false, false, true⟩,
  none,
  none,
  some ⟨.array 0 16, 0, 0, some [], false, false, false⟩,
  none,
  none,
  some ⟨.func, 1, 8, some [.nilFunc], false, false, true⟩,
  some ⟨.int .u8, 1, 1, some [.int .u8 0], false, false, true⟩,
  some ⟨.int .u8, 1, 1, some [.int .u8 0], false, false, true⟩,
  some ⟨.func, 1, 8, some [.nilFunc], false, false, true⟩,
  some ⟨.pointer 5, 1, 8, some [.pointer none], false, false, true⟩,
  some ⟨.int .i32, 1, 4, some [.int .i32 0], false, false, true⟩,
  some ⟨.int .i32, 1, 4, some [.int .i32 0], false, false, true⟩,
  none,
  none,
  none]
def optOf : List (Option TI) → Nat → Option TI
  | [], _ => none
  | x :: _, 0 => x
  | _ :: r, n + 1 => optOf r n
def TrydE : Env := optOf TrydTypes
def fits (P : Program) : List (Option TI) → Nat → Prop
  | [], _ => True
  | none :: r, n => fits P r (n + 1)
  | some i :: r, n => tiOf P n = some i ∧ fits P r (n + 1)
theorem fits_spec {P : Program} : ∀ {l : List (Option TI)} {n : Nat}, fits P l n → ∀ t i, optOf l t = some i → tiOf P (n + t) = some i
  | [], _, _, t, i, h => by simp [optOf] at h
  | none :: r, n, hf, 0, i, h => by simp [optOf] at h
  | some x :: r, n, hf, 0, i, h => by simp only [optOf, Option.some.injEq] at h; subst h; exact hf.1
  | none :: r, n, hf, t + 1, i, h => by have := fits_spec (l := r) (n := n + 1) hf t i h; rwa [show n + (t + 1) = n + 1 + t by omega]
  | some x :: r, n, hf, t + 1, i, h => by have := fits_spec (l := r) (n := n + 1) hf.2 t i h; rwa [show n + (t + 1) = n + 1 + t by omega]
theorem Trydti1 : tiOf Tryd.prog 1 = some ⟨.func, 1, 8, some [.nilFunc], false, false, true⟩ := by kernel_rfl
theorem Trydti2 : tiOf Tryd.prog 2 = some ⟨.int .i64, 1, 8, some [.int .i64 0], false, false, true⟩ := by kernel_rfl
theorem Trydti3 : tiOf Tryd.prog 3 = some ⟨.int .i64, 1, 8, some [.int .i64 0], false, false, true⟩ := by kernel_rfl
theorem Trydti4 : tiOf Tryd.prog 4 = some ⟨.bool, 1, 1, some [.bool false], false, false, true⟩ := by kernel_rfl
theorem Trydti5 : tiOf Tryd.prog 5 = some ⟨.int .u8, 1, 1, some [.int .u8 0], false, false, true⟩ := by kernel_rfl
theorem Trydti6 : tiOf Tryd.prog 6 = some ⟨.int .u8, 1, 1, some [.int .u8 0], false, false, true⟩ := by kernel_rfl
theorem Trydti7 : tiOf Tryd.prog 7 = some ⟨.struct [(0, 2, false), (1, 3, false), (2, 4, false), (3, 6, false)], 4, 24, some [.int .i64 0, .int .i64 0, .bool false, .int .u8 0], false, false, false⟩ := by kernel_rfl
theorem Trydti8 : tiOf Tryd.prog 8 = some ⟨.struct [(0, 2, false), (1, 3, false), (2, 4, false), (3, 6, false)], 4, 24, some [.int .i64 0, .int .i64 0, .bool false, .int .u8 0], false, false, false⟩ := by kernel_rfl
theorem Trydti9 : tiOf Tryd.prog 9 = some ⟨.string, 1, 16, some [.string ⟨#[]⟩], false, false, true⟩ := by kernel_rfl
theorem Trydti10 : tiOf Tryd.prog 10 = some ⟨.string, 1, 16, some [.string ⟨#[]⟩], false, false, true⟩ := by kernel_rfl
theorem Trydti11 : tiOf Tryd.prog 11 = some ⟨.string, 1, 16, some [.string ⟨#[]⟩], false, false, true⟩ := by kernel_rfl
theorem Trydti12 : tiOf Tryd.prog 12 = some ⟨.int .u64, 1, 8, some [.int .u64 0], false, false, true⟩ := by kernel_rfl
theorem Trydti15 : tiOf Tryd.prog 15 = some ⟨.pointer 125, 1, 8, some [.pointer none], false, false, true⟩ := by kernel_rfl
theorem Trydti16 : tiOf Tryd.prog 16 = some ⟨.pointer 128, 1, 8, some [.pointer none], false, false, true⟩ := by kernel_rfl
theorem Trydti17 : tiOf Tryd.prog 17 = some ⟨.pointer 137, 1, 8, some [.pointer none], false, false, true⟩ := by kernel_rfl
theorem Trydti21 : tiOf Tryd.prog 21 = some ⟨.int .i32, 1, 4, some [.int .i32 0], false, false, true⟩ := by kernel_rfl
theorem Trydti22 : tiOf Tryd.prog 22 = some ⟨.slice 25, 1, 24, some [.slice none 0 0], false, false, true⟩ := by kernel_rfl
theorem Trydti23 : tiOf Tryd.prog 23 = some ⟨.struct [(0, 3, false), (1, 22, false)], 2, 32, some [.int .i64 0, .slice none 0 0], false, false, false⟩ := by kernel_rfl
theorem Trydti24 : tiOf Tryd.prog 24 = some ⟨.struct [(0, 3, false), (1, 22, false)], 2, 32, some [.int .i64 0, .slice none 0 0], false, false, false⟩ := by kernel_rfl
theorem Trydti25 : tiOf Tryd.prog 25 = some ⟨.slice 3, 1, 24, some [.slice none 0 0], false, false, true⟩ := by kernel_rfl
theorem Trydti26 : tiOf Tryd.prog 26 = some ⟨.func, 1, 8, some [.nilFunc], false, false, true⟩ := by kernel_rfl
theorem Trydti27 : tiOf Tryd.prog 27 = some ⟨.func, 1, 8, some [.nilFunc], false, false, true⟩ := by kernel_rfl
theorem Trydti28 : tiOf Tryd.prog 28 = some ⟨.func, 1, 8, some [.nilFunc], false, false, true⟩ := by kernel_rfl
theorem Trydti29 : tiOf Tryd.prog 29 = some ⟨.func, 1, 8, some [.nilFunc], false, false, true⟩ := by kernel_rfl
theorem Trydti30 : tiOf Tryd.prog 30 = some ⟨.func, 1, 8, some [.nilFunc], false, false, true⟩ := by kernel_rfl
theorem Trydti31 : tiOf Tryd.prog 31 = some ⟨.slice 33, 1, 24, some [.slice none 0 0], false, false, true⟩ := by kernel_rfl
theorem Trydti32 : tiOf Tryd.prog 32 = some ⟨.slice 34, 1, 24, some [.slice none 0 0], false, false, true⟩ := by kernel_rfl
theorem Trydti33 : tiOf Tryd.prog 33 = some ⟨.int .u32, 1, 4, some [.int .u32 0], false, false, true⟩ := by kernel_rfl
theorem Trydti34 : tiOf Tryd.prog 34 = some ⟨.int .u32, 1, 4, some [.int .u32 0], false, false, true⟩ := by kernel_rfl
theorem Trydti35 : tiOf Tryd.prog 35 = some ⟨.int .i64, 1, 8, some [.int .i64 0], false, false, true⟩ := by kernel_rfl
theorem Trydti37 : tiOf Tryd.prog 37 = some ⟨.func, 1, 8, some [.nilFunc], false, false, true⟩ := by kernel_rfl
theorem Trydti38 : tiOf Tryd.prog 38 = some ⟨.func, 1, 8, some [.nilFunc], false, false, true⟩ := by kernel_rfl
theorem Trydti39 : tiOf Tryd.prog 39 = some ⟨.func, 1, 8, some [.nilFunc], false, false, true⟩ := by kernel_rfl
theorem Trydti40 : tiOf Tryd.prog 40 = some ⟨.func, 1, 8, some [.nilFunc], false, false, true⟩ := by kernel_rfl
theorem Trydti41 : tiOf Tryd.prog 41 = some ⟨.slice 57, 1, 24, some [.slice none 0 0], false, false, true⟩ := by kernel_rfl
theorem Trydti42 : tiOf Tryd.prog 42 = some ⟨.slice 5, 1, 24, some [.slice none 0 0], false, false, true⟩ := by kernel_rfl
theorem Trydti43 : tiOf Tryd.prog 43 = some ⟨.struct [(0, 5, false), (1, 41, false), (2, 41, false), (3, 42, false)], 4, 80, some [.int .u8 0, .slice none 0 0, .slice none 0 0, .slice none 0 0], false, false, false⟩ := by kernel_rfl
theorem Trydti44 : tiOf Tryd.prog 44 = some ⟨.struct [(0, 5, false), (1, 41, false), (2, 41, false), (3, 42, false)], 4, 80, some [.int .u8 0, .slice none 0 0, .slice none 0 0, .slice none 0 0], false, false, false⟩ := by kernel_rfl
theorem Trydti45 : tiOf Tryd.prog 45 = some ⟨.slice 69, 1, 24, some [.slice none 0 0], false, false, true⟩ := by kernel_rfl
theorem Trydti46 : tiOf Tryd.prog 46 = some ⟨.slice 59, 1, 24, some [.slice none 0 0], false, false, true⟩ := by kernel_rfl
theorem Trydti48 : tiOf Tryd.prog 48 = some ⟨.func, 1, 8, some [.nilFunc], false, false, true⟩ := by kernel_rfl
theorem Trydti49 : tiOf Tryd.prog 49 = some ⟨.slice 55, 1, 24, some [.slice none 0 0], false, false, true⟩ := by kernel_rfl
theorem Trydti51 : tiOf Tryd.prog 51 = some ⟨.func, 1, 8, some [.nilFunc], false, false, true⟩ := by kernel_rfl
theorem Trydti52 : tiOf Tryd.prog 52 = some ⟨.func, 1, 8, some [.nilFunc], false, false, true⟩ := by kernel_rfl
theorem Trydti53 : tiOf Tryd.prog 53 = some ⟨.func, 1, 8, some [.nilFunc], false, false, true⟩ := by kernel_rfl
theorem Trydti54 : tiOf Tryd.prog 54 = some ⟨.struct [(0, 4, false), (1, 3, false), (2, 3, false), (3, 3, false)], 4, 32, some [.bool false, .int .i64 0, .int .i64 0, .int .i64 0], false, false, false⟩ := by kernel_rfl
theorem Trydti55 : tiOf Tryd.prog 55 = some ⟨.struct [(0, 4, false), (1, 3, false), (2, 3, false), (3, 3, false)], 4, 32, some [.bool false, .int .i64 0, .int .i64 0, .int .i64 0], false, false, false⟩ := by kernel_rfl
theorem Trydti56 : tiOf Tryd.prog 56 = some ⟨.func, 1, 8, some [.nilFunc], false, false, true⟩ := by kernel_rfl
theorem Trydti57 : tiOf Tryd.prog 57 = some ⟨.array 2 5, 2, 2, some [.int .u8 0, .int .u8 0], false, false, false⟩ := by kernel_rfl
theorem Trydti58 : tiOf Tryd.prog 58 = some ⟨.struct [(0, 34, false), (1, 34, false)], 2, 8, some [.int .u32 0, .int .u32 0], false, false, false⟩ := by kernel_rfl
theorem Trydti59 : tiOf Tryd.prog 59 = some ⟨.struct [(0, 34, false), (1, 34, false)], 2, 8, some [.int .u32 0, .int .u32 0], false, false, false⟩ := by kernel_rfl
theorem Trydti61 : tiOf Tryd.prog 61 = some ⟨.func, 1, 8, some [.nilFunc], false, false, true⟩ := by kernel_rfl
theorem Trydti62 : tiOf Tryd.prog 62 = some ⟨.func, 1, 8, some [.nilFunc], false, false, true⟩ := by kernel_rfl
theorem Trydti63 : tiOf Tryd.prog 63 = some ⟨.func, 1, 8, some [.nilFunc], false, false, true⟩ := by kernel_rfl
theorem Trydti64 : tiOf Tryd.prog 64 = some ⟨.func, 1, 8, some [.nilFunc], false, false, true⟩ := by kernel_rfl
theorem Trydti65 : tiOf Tryd.prog 65 = some ⟨.func, 1, 8, some [.nilFunc], false, false, true⟩ := by kernel_rfl
theorem Trydti66 : tiOf Tryd.prog 66 = some ⟨.func, 1, 8, some [.nilFunc], false, false, true⟩ := by kernel_rfl
theorem Trydti67 : tiOf Tryd.prog 67 = some ⟨.func, 1, 8, some [.nilFunc], false, false, true⟩ := by kernel_rfl
theorem Trydti68 : tiOf Tryd.prog 68 = some ⟨.func, 1, 8, some [.nilFunc], false, false, true⟩ := by kernel_rfl
theorem Trydti69 : tiOf Tryd.prog 69 = some ⟨.struct [(0, 34, false), (1, 34, false)], 2, 8, some [.int .u32 0, .int .u32 0], false, false, false⟩ := by kernel_rfl
theorem Trydti70 : tiOf Tryd.prog 70 = some ⟨.func, 1, 8, some [.nilFunc], false, false, true⟩ := by kernel_rfl
theorem Trydti71 : tiOf Tryd.prog 71 = some ⟨.func, 1, 8, some [.nilFunc], false, false, true⟩ := by kernel_rfl
theorem Trydti72 : tiOf Tryd.prog 72 = some ⟨.func, 1, 8, some [.nilFunc], false, false, true⟩ := by kernel_rfl
theorem Trydti73 : tiOf Tryd.prog 73 = some ⟨.func, 1, 8, some [.nilFunc], false, false, true⟩ := by kernel_rfl
theorem Trydti74 : tiOf Tryd.prog 74 = some ⟨.func, 1, 8, some [.nilFunc], false, false, true⟩ := by kernel_rfl
theorem Trydti75 : tiOf Tryd.prog 75 = some ⟨.func, 1, 8, some [.nilFunc], false, false, true⟩ := by kernel_rfl
theorem Trydti76 : tiOf Tryd.prog 76 = some ⟨.func, 1, 8, some [.nilFunc], false, false, true⟩ := by kernel_rfl
theorem Trydti77 : tiOf Tryd.prog 77 = some ⟨.func, 1, 8, some [.nilFunc], false, false, true⟩ := by kernel_rfl
theorem Trydti78 : tiOf Tryd.prog 78 = some ⟨.func, 1, 8, some [.nilFunc], false, false, true⟩ := by kernel_rfl
theorem Trydti79 : tiOf Tryd.prog 79 = some ⟨.func, 1, 8, some [.nilFunc], false, false, true⟩ := by kernel_rfl
theorem Trydti81 : tiOf Tryd.prog 81 = some ⟨.func, 1, 8, some [.nilFunc], false, false, true⟩ := by kernel_rfl
theorem Trydti82 : tiOf Tryd.prog 82 = some ⟨.func, 1, 8, some [.nilFunc], false, false, true⟩ := by kernel_rfl
theorem Trydti83 : tiOf Tryd.prog 83 = some ⟨.func, 1, 8, some [.nilFunc], false, false, true⟩ := by kernel_rfl
theorem Trydti84 : tiOf Tryd.prog 84 = some ⟨.func, 1, 8, some [.nilFunc], false, false, true⟩ := by kernel_rfl
theorem Trydti85 : tiOf Tryd.prog 85 = some ⟨.func, 1, 8, some [.nilFunc], false, false, true⟩ := by kernel_rfl
theorem Trydti86 : tiOf Tryd.prog 86 = some ⟨.func, 1, 8, some [.nilFunc], false, false, true⟩ := by kernel_rfl
theorem Trydti87 : tiOf Tryd.prog 87 = some ⟨.func, 1, 8, some [.nilFunc], false, false, true⟩ := by kernel_rfl
theorem Trydti88 : tiOf Tryd.prog 88 = some ⟨.func, 1, 8, some [.nilFunc], false, false, true⟩ := by kernel_rfl
theorem Trydti89 : tiOf Tryd.prog 89 = some ⟨.func, 1, 8, some [.nilFunc], false, false, true⟩ := by kernel_rfl
theorem Trydti90 : tiOf Tryd.prog 90 = some ⟨.func, 1, 8, some [.nilFunc], false, false, true⟩ := by kernel_rfl
theorem Trydti91 : tiOf Tryd.prog 91 = some ⟨.func, 1, 8, some [.nilFunc], false, false, true⟩ := by kernel_rfl
theorem Trydti92 : tiOf Tryd.prog 92 = some ⟨.func, 1, 8, some [.nilFunc], false, false, true⟩ := by kernel_rfl
theorem Trydti93 : tiOf Tryd.prog 93 = some ⟨.func, 1, 8, some [.nilFunc], false, false, true⟩ := by kernel_rfl
theorem Trydti94 : tiOf Tryd.prog 94 = some ⟨.func, 1, 8, some [.nilFunc], false, false, true⟩ := by kernel_rfl
theorem Trydti95 : tiOf Tryd.prog 95 = some ⟨.func, 1, 8, some [.nilFunc], false, false, true⟩ := by kernel_rfl
theorem Trydti96 : tiOf Tryd.prog 96 = some ⟨.func, 1, 8, some [.nilFunc], false, false, true⟩ := by kernel_rfl
theorem Trydti97 : tiOf Tryd.prog 97 = some ⟨.func, 1, 8, some [.nilFunc], false, false, true⟩ := by kernel_rfl
theorem Trydti98 : tiOf Tryd.prog 98 = some ⟨.func, 1, 8, some [.nilFunc], false, false, true⟩ := by kernel_rfl
theorem Trydti99 : tiOf Tryd.prog 99 = some ⟨.func, 1, 8, some [.nilFunc], false, false, true⟩ := by kernel_rfl
theorem Trydti100 : tiOf Tryd.prog 100 = some ⟨.int .u64, 1, 8, some [.int .u64 0], false, false, true⟩ := by kernel_rfl
theorem Trydti101 : tiOf Tryd.prog 101 = some ⟨.func, 1, 8, some [.nilFunc], false, false, true⟩ := by kernel_rfl
theorem Trydti102 : tiOf Tryd.prog 102 = some ⟨.func, 1, 8, some [.nilFunc], false, false, true⟩ := by kernel_rfl
theorem Trydti103 : tiOf Tryd.prog 103 = some ⟨.int .i64, 1, 8, some [.int .i64 0], false, false, true⟩ := by kernel_rfl
theorem Trydti105 : tiOf Tryd.prog 105 = some ⟨.func, 1, 8, some [.nilFunc], false, false, true⟩ := by kernel_rfl
theorem Trydti106 : tiOf Tryd.prog 106 = some ⟨.func, 1, 8, some [.nilFunc], false, false, true⟩ := by kernel_rfl
theorem Trydti107 : tiOf Tryd.prog 107 = some ⟨.func, 1, 8, some [.nilFunc], false, false, true⟩ := by kernel_rfl
theorem Trydti109 : tiOf Tryd.prog 109 = some ⟨.func, 1, 8, some [.nilFunc], false, false, true⟩ := by kernel_rfl
theorem Trydti110 : tiOf Tryd.prog 110 = some ⟨.func, 1, 8, some [.nilFunc], false, false, true⟩ := by kernel_rfl
theorem Trydti111 : tiOf Tryd.prog 111 = some ⟨.func, 1, 8, some [.nilFunc], false, false, true⟩ := by kernel_rfl
theorem Trydti112 : tiOf Tryd.prog 112 = some ⟨.int .u64, 1, 8, some [.int .u64 0], false, false, true⟩ := by kernel_rfl
theorem Trydti113 : tiOf Tryd.prog 113 = some ⟨.int .u64, 1, 8, some [.int .u64 0], false, false, true⟩ := by kernel_rfl
theorem Trydti114 : tiOf Tryd.prog 114 = some ⟨.func, 1, 8, some [.nilFunc], false, false, true⟩ := by kernel_rfl
theorem Trydti115 : tiOf Tryd.prog 115 = some ⟨.func, 1, 8, some [.nilFunc], false, false, true⟩ := by kernel_rfl
theorem Trydti116 : tiOf Tryd.prog 116 = some ⟨.func, 1, 8, some [.nilFunc], false, false, true⟩ := by kernel_rfl
theorem Trydti117 : tiOf Tryd.prog 117 = some ⟨.pointer 3, 1, 8, some [.pointer none], false, false, true⟩ := by kernel_rfl
theorem Trydti118 : tiOf Tryd.prog 118 = some ⟨.func, 1, 8, some [.nilFunc], false, false, true⟩ := by kernel_rfl
theorem Trydti119 : tiOf Tryd.prog 119 = some ⟨.array 32 5, 32, 32, some [.int .u8 0, .int .u8 0, .int .u8 0, .int .u8 0, .int .u8 0, .int .u8 0, .int .u8 0, .int .u8 0, .int .u8 0, .int .u8 0, .int .u8 0, .int .u8 0, .int .u8 0, .int .u8 0, .int .u8 0, .int .u8 0, .int .u8 0, .int .u8 0, .int .u8 0, .int .u8 0, .int .u8 0, .int .u8 0, .int .u8 0, .int .u8 0, .int .u8 0, .int .u8 0, .int .u8 0, .int .u8 0, .int .u8 0, .int .u8 0, .int .u8 0, .int .u8 0], false, false, false⟩ := by kernel_rfl
theorem Trydti120 : tiOf Tryd.prog 120 = some ⟨.pointer 113, 1, 8, some [.pointer none], false, false, true⟩ := by kernel_rfl
theorem Trydti122 : tiOf Tryd.prog 122 = some ⟨.func, 1, 8, some [.nilFunc], false, false, true⟩ := by kernel_rfl
theorem Trydti123 : tiOf Tryd.prog 123 = some ⟨.func, 1, 8, some [.nilFunc], false, false, true⟩ := by kernel_rfl
theorem Trydti126 : tiOf Tryd.prog 126 = some ⟨.array 0 16, 0, 0, some [], false, false, false⟩ := by kernel_rfl
theorem Trydti129 : tiOf Tryd.prog 129 = some ⟨.func, 1, 8, some [.nilFunc], false, false, true⟩ := by kernel_rfl
theorem Trydti130 : tiOf Tryd.prog 130 = some ⟨.int .u8, 1, 1, some [.int .u8 0], false, false, true⟩ := by kernel_rfl
theorem Trydti131 : tiOf Tryd.prog 131 = some ⟨.int .u8, 1, 1, some [.int .u8 0], false, false, true⟩ := by kernel_rfl
theorem Trydti132 : tiOf Tryd.prog 132 = some ⟨.func, 1, 8, some [.nilFunc], false, false, true⟩ := by kernel_rfl
theorem Trydti133 : tiOf Tryd.prog 133 = some ⟨.pointer 5, 1, 8, some [.pointer none], false, false, true⟩ := by kernel_rfl
theorem Trydti134 : tiOf Tryd.prog 134 = some ⟨.int .i32, 1, 4, some [.int .i32 0], false, false, true⟩ := by kernel_rfl
theorem Trydti135 : tiOf Tryd.prog 135 = some ⟨.int .i32, 1, 4, some [.int .i32 0], false, false, true⟩ := by kernel_rfl
theorem Trydfits : fits Tryd.prog TrydTypes 0 := ⟨Trydti1, ⟨Trydti2, ⟨Trydti3, ⟨Trydti4, ⟨Trydti5, ⟨Trydti6, ⟨Trydti7, ⟨Trydti8, ⟨Trydti9, ⟨Trydti10, ⟨Trydti11, ⟨Trydti12, ⟨Trydti15, ⟨Trydti16, ⟨Trydti17, ⟨Trydti21, ⟨Trydti22, ⟨Trydti23, ⟨Trydti24, ⟨Trydti25, ⟨Trydti26, ⟨Trydti27, ⟨Trydti28, ⟨Trydti29, ⟨Trydti30, ⟨Trydti31, ⟨Trydti32, ⟨Trydti33, ⟨Trydti34, ⟨Trydti35, ⟨Trydti37, ⟨Trydti38, ⟨Trydti39, ⟨Trydti40, ⟨Trydti41, ⟨Trydti42, ⟨Trydti43, ⟨Trydti44, ⟨Trydti45, ⟨Trydti46, ⟨Trydti48, ⟨Trydti49, ⟨Trydti51, ⟨Trydti52, ⟨Trydti53, ⟨Trydti54, ⟨Trydti55, ⟨Trydti56, ⟨Trydti57, ⟨Trydti58, ⟨Trydti59, ⟨Trydti61, ⟨Trydti62, ⟨Trydti63, ⟨Trydti64, ⟨Trydti65, ⟨Trydti66, ⟨Trydti67, ⟨Trydti68, ⟨Trydti69, ⟨Trydti70, ⟨Trydti71, ⟨Trydti72, ⟨Trydti73, ⟨Trydti74, ⟨Trydti75, ⟨Trydti76, ⟨Trydti77, ⟨Trydti78, ⟨Trydti79, ⟨Trydti81, ⟨Trydti82, ⟨Trydti83, ⟨Trydti84, ⟨Trydti85, ⟨Trydti86, ⟨Trydti87, ⟨Trydti88, ⟨Trydti89, ⟨Trydti90, ⟨Trydti91, ⟨Trydti92, ⟨Trydti93, ⟨Trydti94, ⟨Trydti95, ⟨Trydti96, ⟨Trydti97, ⟨Trydti98, ⟨Trydti99, ⟨Trydti100, ⟨Trydti101, ⟨Trydti102, ⟨Trydti103, ⟨Trydti105, ⟨Trydti106, ⟨Trydti107, ⟨Trydti109, ⟨Trydti110, ⟨Trydti111, ⟨Trydti112, ⟨Trydti113, ⟨Trydti114, ⟨Trydti115, ⟨Trydti116, ⟨Trydti117, ⟨Trydti118, ⟨Trydti119, ⟨Trydti120, ⟨Trydti122, ⟨Trydti123, ⟨Trydti126, ⟨Trydti129, ⟨Trydti130, ⟨Trydti131, ⟨Trydti132, ⟨Trydti133, ⟨Trydti134, ⟨Trydti135, trivial⟩⟩⟩⟩⟩⟩⟩⟩⟩⟩⟩⟩⟩⟩⟩⟩⟩⟩⟩⟩⟩⟩⟩⟩⟩⟩⟩⟩⟩⟩⟩⟩⟩⟩⟩⟩⟩⟩⟩⟩⟩⟩⟩⟩⟩⟩⟩⟩⟩⟩⟩⟩⟩⟩⟩⟩⟩⟩⟩⟩⟩⟩⟩⟩⟩⟩⟩⟩⟩⟩⟩⟩⟩⟩⟩⟩⟩⟩⟩⟩⟩⟩⟩⟩⟩⟩⟩⟩⟩⟩⟩⟩⟩⟩⟩⟩⟩⟩⟩⟩⟩⟩⟩⟩⟩⟩⟩⟩⟩⟩⟩⟩⟩⟩⟩⟩⟩⟩
theorem Trydok : EnvOk Tryd.prog TrydE := fun t i h => by
  have := fits_spec Trydfits t i h
  rwa [Nat.zero_add] at this
theorem Trydmixed : Tryd.prog.follows .mixedOrders = true := by kernel_rfl
end Go.Hx
end
section
namespace Go.Hx
open Go.RowKit
abbrev AS := BitVec 32
abbrev asI (s : AS) : Int := (s.toNat : Int)
def asC (s : AS) : PV := .raw (.int .u32 (asI s))
theorem wrap_u32 {n : Int} (h0 : 0 ≤ n) (h1 : n < 4294967296) : IntKind.wrap .u32 n = n := wrap_inR (by simp only [inR, loOf, hiOf]; omega)
theorem asI_lt (s : AS) : asI s < 4294967296 := by
  have := s.isLt
  unfold asI
  omega
theorem asI_nn (s : AS) : 0 ≤ asI s := Int.natCast_nonneg _
theorem ofInt_asI (s : AS) : BitVec.ofInt 32 (asI s) = s := by
  unfold asI
  rw [BitVec.ofInt_natCast, BitVec.ofNat_toNat, BitVec.setWidth_eq]
theorem asI_inj {a b : AS} : asI a = asI b ↔ a = b := by
  unfold asI
  rw [Int.ofNat_inj]
  exact BitVec.toNat_inj
theorem wrap_asI (s : AS) : IntKind.wrap .u32 (s.toNat : Int) = asI s := wrap_u32 (asI_nn s) (asI_lt s)
theorem bAnd (a b : AS) : bitV .and .u32 (asI a) (asI b) = asI (a &&& b) := by
  show IntKind.wrap .u32 ((BitVec.ofInt 32 (asI a) &&& BitVec.ofInt 32 (asI b)).toNat : Int) = _
  rw [ofInt_asI, ofInt_asI, wrap_asI]
theorem bOr (a b : AS) : bitV .or .u32 (asI a) (asI b) = asI (a ||| b) := by
  show IntKind.wrap .u32 ((BitVec.ofInt 32 (asI a) ||| BitVec.ofInt 32 (asI b)).toNat : Int) = _
  rw [ofInt_asI, ofInt_asI, wrap_asI]
theorem bNot (a b : AS) : bitV .andNot .u32 (asI a) (asI b) = asI (a &&& ~~~b) := by
  show IntKind.wrap .u32 ((BitVec.ofInt 32 (asI a) &&& ~~~BitVec.ofInt 32 (asI b)).toNat : Int) = _
  rw [ofInt_asI, ofInt_asI, wrap_asI]
theorem bShr (a : AS) (n : Nat) : (asI a).fdiv (2 ^ (min n 32)) = asI (a >>> n) := by
  have e : (2 : Int) ^ (min n 32) = ((2 ^ (min n 32) : Nat) : Int) := by rw [Int.natCast_pow]; rfl
  rw [e]
  unfold asI
  rw [Int.fdiv_eq_ediv_of_nonneg _ (Int.natCast_nonneg _), ← Int.natCast_ediv, BitVec.toNat_ushiftRight, Nat.shiftRight_eq_div_pow]
  by_cases h : n ≤ 32
  · rw [Nat.min_eq_left h]
  · rw [Nat.min_eq_right (by omega)]
    have h1 := a.isLt
    have h2 : 2 ^ 32 ≤ 2 ^ n := Nat.pow_le_pow_right (by omega) (by omega)
    rw [Nat.div_eq_of_lt (by omega), Nat.div_eq_of_lt (Nat.lt_of_lt_of_le (by omega) h2)]
theorem bShl (a : AS) (n : Nat) : IntKind.wrap .u32 (asI a * 2 ^ (min n 32)) = asI (a <<< n) := by
  have e : asI a * (2 : Int) ^ (min n 32) = ((a.toNat * 2 ^ (min n 32) : Nat) : Int) := by rw [Int.natCast_mul, Int.natCast_pow]; rfl
  rw [e]
  have hw : ∀ m : Nat, IntKind.wrap .u32 (m : Int) = ((m % 4294967296 : Nat) : Int) := by
    intro m
    simp [IntKind.wrap, IntKind.signed, IntKind.bits]
  rw [hw]
  unfold asI
  rw [BitVec.toNat_shiftLeft, Nat.shiftLeft_eq]
  by_cases h : n ≤ 32
  · rw [Nat.min_eq_left h]
  · rw [Nat.min_eq_right (by omega)]
    have h1 : a.toNat * 2 ^ 32 % 2 ^ 32 = 0 := Nat.mul_mod_left _ _
    have h2 : a.toNat * 2 ^ n % 2 ^ 32 = 0 := by
      obtain ⟨k, rfl⟩ : ∃ k, n = k + 32 := ⟨n - 32, by omega⟩
      rw [Nat.pow_add, ← Nat.mul_assoc]
      exact Nat.mul_mod_left _ _
    have h1 : a.toNat * 2 ^ 32 % 4294967296 = 0 := h1
    rw [h1, h2]
end Go.Hx
end
section
namespace Go.Hx
structure Fd where
  lhs : AS
  rhs : AS
instance : Inhabited Fd := ⟨⟨0, 0⟩⟩
theorem Fd.eq_iff {a b : Fd} : a = b ↔ a.lhs = b.lhs ∧ a.rhs = b.rhs := by cases a; cases b; simp
instance : DecidableEq Fd := fun a b => decidable_of_iff _ (Fd.eq_iff (a := a) (b := b)).symm
def Fd.c (x : Fd) : Nat → PV
  | 0 => asC x.lhs
  | 1 => asC x.rhs
  | _ => .any
def sub (a b : AS) : Prop := a &&& ~~~b = 0
instance : DecidablePred fun p : AS × AS => sub p.1 p.2 := fun p => inferInstanceAs (Decidable (_ = _))
instance {a b : AS} : Decidable (sub a b) := inferInstanceAs (Decidable (_ = _))
theorem sub_bit {a b : AS} : sub a b ↔ ∀ i, i < 32 → a.getLsbD i = true → b.getLsbD i = true := by
  unfold sub
  constructor
  · intro h i hi ha
    have := congrArg (fun x : AS => x.getLsbD i) h
    simp only [BitVec.getLsbD_and, BitVec.getLsbD_not, hi, ha, decide_true, Bool.true_and] at this
    simpa using this
  · intro h
    apply BitVec.eq_of_getLsbD_eq
    intro i hi
    have := h i hi
    simp only [BitVec.getLsbD_and, BitVec.getLsbD_not, hi, decide_true, Bool.true_and]
    cases ha : a.getLsbD i <;> cases hb : b.getLsbD i <;> simp_all
theorem sub_refl (a : AS) : sub a a := sub_bit.2 fun _ _ h => h
theorem sub_trans {a b c : AS} (h : sub a b) (k : sub b c) : sub a c := sub_bit.2 fun i hi ha => sub_bit.1 k i hi (sub_bit.1 h i hi ha)
theorem sub_or_l {a b : AS} : sub a (a ||| b) := sub_bit.2 fun i hi ha => by simp [ha]
theorem sub_or_r {a b : AS} : sub b (a ||| b) := sub_bit.2 fun i hi ha => by simp [ha]
theorem or_sub {a b c : AS} (h : sub a c) (k : sub b c) : sub (a ||| b) c := sub_bit.2 fun i hi ha => by
  rw [BitVec.getLsbD_or, Bool.or_eq_true] at ha
  rcases ha with ha | ha
  · exact sub_bit.1 h i hi ha
  · exact sub_bit.1 k i hi ha
theorem sub_antisymm {a b : AS} (h : sub a b) (k : sub b a) : a = b := by
  apply BitVec.eq_of_getLsbD_eq
  intro i hi
  have h1 := sub_bit.1 h i hi
  have h2 := sub_bit.1 k i hi
  cases ha : a.getLsbD i <;> cases hb : b.getLsbD i <;> simp_all
theorem sub_le {a b : AS} (h : sub a b) : a.toNat ≤ b.toNat := by
  have e : a ||| b = b := sub_antisymm (or_sub h (sub_refl b)) sub_or_r
  have : a.toNat ≤ (a ||| b).toNat := by rw [BitVec.toNat_or]; exact Nat.left_le_or
  rwa [e] at this
theorem sub_lt {a b : AS} (h : sub a b) (hne : a ≠ b) : a.toNat < b.toNat := by
  rcases Nat.lt_or_eq_of_le (sub_le h) with h | h
  · exact h
  · exact absurd (BitVec.eq_of_toNat_eq h) hne
theorem sub_and {a b : AS} : sub a b ↔ a &&& b = a := by
  rw [sub_bit]
  constructor
  · intro h
    apply BitVec.eq_of_getLsbD_eq
    intro i hi
    have := h i hi
    rw [BitVec.getLsbD_and]
    cases ha : a.getLsbD i <;> simp_all
  · intro h i hi ha
    have := congrArg (fun x : AS => x.getLsbD i) h
    simp only [BitVec.getLsbD_and, ha, Bool.true_and] at this
    exact this
def clStep1 (s : AS) (f : Fd) : AS := if sub f.lhs s then s ||| f.rhs else s
def clStep (l : List Fd) (s : AS) : AS := l.foldl clStep1 s
def clF (l : List Fd) : Nat → AS → AS
  | 0, s => s
  | n + 1, s => if clStep l s = s then s else clF l n (clStep l s)
def clo (l : List Fd) (s : AS) : AS := clF l 4294967296 s
def closedB (l : List Fd) (s : AS) : Prop := ∀ f ∈ l, sub f.lhs s → sub f.rhs s
end Go.Hx
end
section
namespace Go.Hx
abbrev pI (a : Int) : PC := .one (.raw (.int .i64 a))
abbrev pB (b : Bool) : PC := .one (.raw (.bool b))
abbrev pP (x : PV) : PC := .one x
abbrev pA (s : AS) : PC := .one (.raw (.int .u32 (asI s)))
abbrev fdl (l : List Fd) : PV := psl 2 Fd.c l
abbrev asl (l : List AS) : PV := psl 1 (fun s _ => asC s) l
abbrev vI (a : Int) : HR := oneP (.raw (.int .i64 a))
abbrev vA (s : AS) : HR := oneP (.raw (.int .u32 (asI s)))
def inU (n : Int) (f : Fd) : Bool := decide ((f.lhs ||| f.rhs) >>> n.toNat = 0)
def vErr (n : Int) (l : List Fd) : Int := if n < 0 ∨ 16 < n then 7 else if 64 < l.length then 3 else if l.all (inU n) = true then 0 else 1
theorem shr_iff {n : Int} {f : Fd} : (bitV .or .u32 (asI f.lhs) (asI f.rhs)).fdiv (2 ^ (min n.toNat 32)) = 0 ↔ inU n f = true := by
  rw [bOr, bShr, show (0 : Int) = asI 0 from rfl, asI_inj]
  unfold inU
  rw [decide_eq_true_iff]
theorem cor_i {k : IntKind} {a b : Int} (h : a = b) : CoR (oneP (.raw (.int k a))) (oneP (.raw (.int k b))) := by
  rw [h]
  exact CoR.refl _
def fullS (n : Nat) : AS := (List.range n).foldl (fun s i => s ||| ((1 : AS) <<< i)) 0
def fullI (n : Int) : AS := fullS (min n.toNat 32)
theorem fullS_succ (i : Nat) : fullS (i + 1) = fullS i ||| ((1 : AS) <<< i) := by
  unfold fullS
  rw [List.range_succ, List.foldl_append]
  rfl
theorem full_step (i : Nat) : bitV .or .u32 (asI (fullS i)) (IntKind.wrap .u32 (1 * 2 ^ (min i 32))) = asI (fullS (i + 1)) := by
  have e : IntKind.wrap .u32 (1 * 2 ^ (min i 32)) = asI ((1 : AS) <<< i) := bShl 1 i
  rw [e, bOr, fullS_succ]
end Go.Hx
end
section
namespace Go.Hx
open Go.Proofs
set_option maxRecDepth 100000
theorem good44 : goodFn Tryd.prog 44 := ⟨Tryd.f44, Tryd.func44, by kernel_rfl, by kernel_rfl⟩
theorem cRSub (a b : AS) : HPure Tryd.prog 44 [pA a, pA b] (prOf [pB (decide (sub a b))]) := by
  refine hpure_of (nt := 10) Trydok Tryd.func44 rfl rfl (Nat.le_of_ble_eq_true rfl) ?_; refine hw_seq ?_; refine hw_region (E := TrydE) Trydok ?_; refine rq rfl rfl rfl rfl rfl ?_; refine rg_nil ?_; show HW _ _ _ _ _
  refine hw_seq ?_; refine hw_region (E := TrydE) Trydok ?_; (iterate 6 refine rq rfl rfl rfl rfl rfl ?_); refine rg_nil ?_; show HW _ _ _ _ _; refine hw_ret ?_; refine ⟨.inr rfl, ?_⟩
  exact ⟨_, _, _, _, rfl, (by (repeat' apply And.intro) <;> first | trivial | exact Nat.le_of_ble_eq_true rfl | rfl), rfl, (by (repeat' apply And.intro) <;> first | trivial | exact Nat.le_of_ble_eq_true rfl | rfl), ⟨ccb (decide_eq_decide.2 (by rw [bAnd, asI_inj]; exact sub_and.symm)), trivial⟩⟩
theorem good72 : goodFn Tryd.prog 72 := ⟨Tryd.f72, Tryd.func72, by kernel_rfl, by kernel_rfl⟩
theorem cValid (n : Int) (l : List Fd) : HPure Tryd.prog 72 [pI n, pP (fdl l)] (prOf [pI (vErr n l)]) := by
  refine hpure_of (nt := 31) Trydok Tryd.func72 rfl rfl (Nat.le_of_ble_eq_true rfl) ?_; refine hw_seq ?_
  refine hw_bt 1 rfl fun hlen => ?_
  refine hw_region (E := TrydE) Trydok ?_; refine rq rfl rfl rfl rfl rfl ?_; refine rg_nil ?_; show HW _ _ _ _ _; (iterate 2 refine hw_seq ?_); refine hw_region (E := TrydE) Trydok ?_; (iterate 3 refine rq rfl rfl rfl rfl rfl ?_)
  refine rsplit rfl rfl (fun r0 => ?_) (fun r0 => ?_)
  · skip
    have h0 := r0
    have h0 := of_decide_eq_true h0
    try simp only [Int.toNat_natCast] at h0
    (iterate 2 refine rk rfl rfl rfl (gtf r0) ?_); refine rq rfl rfl rfl rfl rfl ?_ (hp := r0); refine rg_nil ?_; show HW _ _ _ _ _; refine hw_cond _ rfl (fun _ => ?_) (fun e => by cases e); refine hw_seq ?_
    refine hw_region (E := TrydE) Trydok ?_; refine rq rfl rfl rfl rfl rfl ?_; refine rg_nil ?_; show HW _ _ _ _ _; refine hw_ret ?_; refine ⟨.inr rfl, ?_⟩
    exact ⟨_, _, _, _, rfl, (by (repeat' apply And.intro) <;> first | trivial | exact Nat.le_of_ble_eq_true rfl | rfl), rfl, (by (repeat' apply And.intro) <;> first | trivial | exact Nat.le_of_ble_eq_true rfl | rfl), ⟨cci (by rw [vErr, if_pos (by omega)]), trivial⟩⟩
  · skip
    have h0 := r0
    have h0 := of_decide_eq_false h0
    try simp only [Int.toNat_natCast] at h0
    (iterate 2 refine rq rfl rfl rfl rfl (gff r0) ?_); refine rq rfl rfl rfl rfl rfl ?_; refine rg_nil ?_; show HW _ _ _ _ _; refine hw_cond _ rfl (fun r1 => ?_) (fun r1 => ?_)
    · skip
      have h1 := r1
      have h1 := bif_f r0 h1
      have h1 := of_decide_eq_true h1
      try simp only [Int.toNat_natCast] at h1
      refine hw_seq ?_; refine hw_region (E := TrydE) Trydok ?_; refine rq rfl rfl rfl rfl rfl ?_; refine rg_nil ?_; show HW _ _ _ _ _; refine hw_ret ?_; refine ⟨.inr rfl, ?_⟩
      exact ⟨_, _, _, _, rfl, (by (repeat' apply And.intro) <;> first | trivial | exact Nat.le_of_ble_eq_true rfl | rfl), rfl, (by (repeat' apply And.intro) <;> first | trivial | exact Nat.le_of_ble_eq_true rfl | rfl), ⟨cci (by rw [vErr, if_pos (by omega)]), trivial⟩⟩
    · skip
      have h1 := r1
      have h1 := bif_f r0 h1
      have h1 := of_decide_eq_false h1
      try simp only [Int.toNat_natCast] at h1
      refine hw_skip ?_; show HW _ _ _ _ _; (iterate 2 refine hw_seq ?_); refine hw_region (E := TrydE) Trydok ?_; (iterate 3 refine rq rfl rfl rfl rfl rfl ?_); refine rg_nil ?_; show HW _ _ _ _ _
      refine hw_cond _ rfl (fun r2 => ?_) (fun r2 => ?_)
      · skip
        have h2 := r2
        have h2 := of_decide_eq_true h2
        try simp only [Int.toNat_natCast] at h2
        refine hw_seq ?_; refine hw_region (E := TrydE) Trydok ?_; refine rq rfl rfl rfl rfl rfl ?_; refine rg_nil ?_; show HW _ _ _ _ _; refine hw_ret ?_; refine ⟨.inr rfl, ?_⟩
        exact ⟨_, _, _, _, rfl, (by (repeat' apply And.intro) <;> first | trivial | exact Nat.le_of_ble_eq_true rfl | rfl), rfl, (by (repeat' apply And.intro) <;> first | trivial | exact Nat.le_of_ble_eq_true rfl | rfl), ⟨cci (by rw [vErr, if_neg (by omega), if_pos (by omega)]), trivial⟩⟩
      · skip
        have h2 := r2
        have h2 := of_decide_eq_false h2
        try simp only [Int.toNat_natCast] at h2
        refine hw_skip ?_; show HW _ _ _ _ _; (iterate 2 refine hw_seq ?_); refine hw_region (E := TrydE) Trydok ?_; (iterate 3 refine rq rfl rfl rfl rfl rfl ?_); refine rg_nil ?_; show HW _ _ _ _ _; refine hw_block ?_
        refine hw_loopK (ι := Nat) ⟨[(0, some _), (16, some _), (17, some _)], []⟩ ⟨⟨⟨_, rfl, CoR.refl _⟩, ⟨_, rfl, CoR.refl _⟩, ⟨_, rfl, CoR.refl _⟩, trivial⟩, trivial⟩ (fun i => ⟨[(18, some (vI i))], []⟩) (fun i => i ≤ l.length ∧ ∀ j, j < i → inU n (l.getD j default) = true) (fun i => l.length - i) (0) (⟨Nat.zero_le _, fun j hj => absurd hj (Nat.not_lt_zero j)⟩) ⟨⟨⟨_, rfl, (by first | exact CoR.refl _ | exact coi (by omega) | exact cob (by simp_all))⟩, trivial⟩, trivial⟩ ?_
        rintro i ⟨hi, hI⟩
        refine hw_seq ?_; refine hw_region (E := TrydE) Trydok ?_; refine rq rfl rfl rfl rfl rfl ?_; refine rg_nil ?_; show HW _ _ _ _ _; refine hw_seq ?_; refine hw_cond _ rfl (fun r3 => ?_) (fun r3 => ?_)
        · skip
          have h3 := r3
          have h3 := of_decide_eq_true h3
          try simp only [Int.toNat_natCast] at h3
          refine hw_skip ?_; show HW _ _ _ _ _; refine hw_seq ?_; refine hw_block ?_; refine hw_seq ?_; refine hw_region (E := TrydE) Trydok ?_; (iterate 2 refine rq rfl rfl rfl rfl rfl ?_); refine rm 0 rfl rfl rfl rfl rfl rfl ?_
          refine rs rfl rfl rfl rfl rfl ?_; refine rg_nil ?_; show HW _ _ _ _ _; refine hw_seq ?_; refine hw_region (E := TrydE) Trydok ?_; (iterate 8 refine rq rfl rfl rfl rfl rfl ?_); refine rg_nil ?_; show HW _ _ _ _ _
          refine hw_cond _ rfl (fun r4 => ?_) (fun r4 => ?_)
          · skip
            have h4 := r4
            have h4 := of_decide_eq_false (not_t h4)
            try simp only [Int.toNat_natCast] at h4
            refine hw_seq ?_; refine hw_region (E := TrydE) Trydok ?_; refine rq rfl rfl rfl rfl rfl ?_; refine rg_nil ?_; show HW _ _ _ _ _; refine hw_ret ?_; refine ⟨.inr rfl, ?_⟩
            exact ⟨_, _, _, _, rfl, (by (repeat' apply And.intro) <;> first | trivial | exact Nat.le_of_ble_eq_true rfl | rfl), rfl, (by (repeat' apply And.intro) <;> first | trivial | exact Nat.le_of_ble_eq_true rfl | rfl), ⟨cci (by rw [vErr, if_neg (by omega), if_neg (by omega), if_neg (fun e => absurd (all_f (l := l) (p := inU n) (i := i) (by omega) (by rw [Bool.eq_false_iff]; exact fun e => absurd (shr_iff.2 e) (by assumption))) (by rw [e]; decide))]), trivial⟩⟩
          · skip
            have h4 := r4
            have h4 := of_decide_eq_true (not_f h4)
            try simp only [Int.toNat_natCast] at h4
            refine hw_skip ?_; show HW _ _ _ _ _; refine hw_region (E := TrydE) Trydok ?_; (iterate 2 refine rq rfl rfl rfl rfl rfl ?_); refine rg_nil ?_; refine ⟨i + 1, ?_, ?_, ?_⟩
            · refine ⟨by omega, fun j hj => ?_⟩
              rcases Nat.lt_or_eq_of_le (Nat.le_of_lt_succ hj) with h | h
              · exact hI j h
              · subst h
                exact shr_iff.1 (by assumption)
            · first | omega | (dsimp only; omega)
            · exact ⟨⟨⟨_, rfl, (by first | exact CoR.refl _ | exact coi (by omega) | exact cob (by simp_all))⟩, ⟨_, rfl, CoR.refl _⟩, ⟨_, rfl, CoR.refl _⟩, ⟨_, rfl, CoR.refl _⟩, trivial⟩, trivial⟩
        · skip
          have h3 := r3
          have h3 := of_decide_eq_false h3
          try simp only [Int.toNat_natCast] at h3
          obtain rfl : i = l.length := by omega
          refine hw_exit ?_; show HW _ _ _ _ _; refine hw_seq ?_; refine hw_region (E := TrydE) Trydok ?_; refine rq rfl rfl rfl rfl rfl ?_; refine rg_nil ?_; show HW _ _ _ _ _; refine hw_ret ?_; refine ⟨.inr rfl, ?_⟩
          exact ⟨_, _, _, _, rfl, (by (repeat' apply And.intro) <;> first | trivial | exact Nat.le_of_ble_eq_true rfl | rfl), rfl, (by (repeat' apply And.intro) <;> first | trivial | exact Nat.le_of_ble_eq_true rfl | rfl), ⟨cci (by rw [vErr, if_neg (by omega), if_neg (by omega), if_pos (all_t fun j hj => hI j hj)]), trivial⟩⟩
theorem good30 : goodFn Tryd.prog 30 := ⟨Tryd.f30, Tryd.func30, by kernel_rfl, by kernel_rfl⟩
theorem cRFull (n : Int) : HPure Tryd.prog 30 [pI n] (prOf [pA (fullI n)]) := by
  refine hpure_of (nt := 19) Trydok Tryd.func30 rfl rfl (Nat.le_of_ble_eq_true rfl) ?_; refine hw_seq ?_; refine hw_region (E := TrydE) Trydok ?_; refine rq rfl rfl rfl rfl rfl ?_; refine rg_nil ?_; show HW _ _ _ _ _
  refine hw_seq ?_; refine hw_region (E := TrydE) Trydok ?_; refine rq rfl rfl rfl rfl rfl ?_; refine rg_nil ?_; show HW _ _ _ _ _; (iterate 2 refine hw_seq ?_); refine hw_region (E := TrydE) Trydok ?_
  refine rq rfl rfl rfl rfl rfl ?_; refine rg_nil ?_; show HW _ _ _ _ _; refine hw_block ?_
  refine hw_loopK (ι := Nat) ⟨[(0, some _)], []⟩ ⟨⟨⟨_, rfl, CoR.refl _⟩, trivial⟩, trivial⟩ (fun i => ⟨[(4, some (vI i)), (3, some (vA (fullS i)))], []⟩) (fun i => i ≤ min n.toNat 32) (fun i => min n.toNat 32 - i) (0) (Nat.zero_le _) ⟨⟨⟨_, rfl, (by first | exact CoR.refl _ | exact coi (by omega) | exact cob (by simp_all))⟩, ⟨_, rfl, (by first | exact CoR.refl _ | exact coi (by omega) | exact cob (by simp_all))⟩, trivial⟩, trivial⟩ ?_
  rintro i hi
  (iterate 2 refine hw_seq ?_); refine hw_region (E := TrydE) Trydok ?_; (iterate 4 refine rq rfl rfl rfl rfl rfl ?_); refine rsplit rfl rfl (fun r0 => ?_) (fun r0 => ?_)
  · skip
    have h0 := r0
    have h0 := of_decide_eq_true h0
    try simp only [Int.toNat_natCast] at h0
    (iterate 2 refine rq rfl rfl rfl rfl (gtt r0) ?_); refine rq rfl rfl rfl rfl rfl ?_; refine rg_nil ?_; show HW _ _ _ _ _; refine hw_cond _ rfl (fun r1 => ?_) (fun r1 => ?_)
    · skip
      have h1 := r1
      have h1 := bif_t r0 h1
      have h1 := of_decide_eq_true h1
      try simp only [Int.toNat_natCast] at h1
      refine hw_skip ?_; show HW _ _ _ _ _; refine hw_seq ?_; refine hw_block ?_; refine hw_region (E := TrydE) Trydok ?_; (iterate 5 refine rq rfl rfl rfl rfl rfl ?_); refine rg_nil ?_; show HW _ _ _ _ _
      refine hw_region (E := TrydE) Trydok ?_; (iterate 3 refine rq rfl rfl rfl rfl rfl ?_); refine rg_nil ?_; refine ⟨i + 1, ?_, ?_, ?_⟩
      · show i + 1 ≤ _; omega
      · first | omega | (dsimp only; omega)
      · exact ⟨⟨⟨_, rfl, (by first | exact CoR.refl _ | exact coi (by omega) | exact cob (by simp_all))⟩, ⟨_, rfl, (by simp only [Int.toNat_natCast]; exact cor_i (full_step i))⟩, ⟨_, rfl, CoR.refl _⟩, trivial⟩, trivial⟩
    · skip
      have h1 := r1
      have h1 := bif_t r0 h1
      have h1 := of_decide_eq_false h1
      try simp only [Int.toNat_natCast] at h1
      obtain rfl : i = min n.toNat 32 := by omega
      refine hw_exit ?_; show HW _ _ _ _ _; refine hw_seq ?_; refine hw_region (E := TrydE) Trydok ?_; (iterate 2 refine rq rfl rfl rfl rfl rfl ?_); refine rg_nil ?_; show HW _ _ _ _ _; refine hw_ret ?_; refine ⟨.inr rfl, ?_⟩
      exact ⟨_, _, _, _, rfl, (by (repeat' apply And.intro) <;> first | trivial | exact Nat.le_of_ble_eq_true rfl | rfl), rfl, (by (repeat' apply And.intro) <;> first | trivial | exact Nat.le_of_ble_eq_true rfl | rfl), CoL.refl _⟩
  · skip
    have h0 := r0
    have h0 := of_decide_eq_false h0
    try simp only [Int.toNat_natCast] at h0
    obtain rfl : i = min n.toNat 32 := by omega
    (iterate 2 refine rk rfl rfl rfl (gft r0) ?_); refine rq rfl rfl rfl rfl rfl ?_ (hp := r0); refine rg_nil ?_; show HW _ _ _ _ _; refine hw_cond _ rfl (fun e => by cases e) (fun _ => ?_); refine hw_exit ?_; show HW _ _ _ _ _
    refine hw_seq ?_; refine hw_region (E := TrydE) Trydok ?_; (iterate 2 refine rq rfl rfl rfl rfl rfl ?_); refine rg_nil ?_; show HW _ _ _ _ _; refine hw_ret ?_; refine ⟨.inr rfl, ?_⟩
    exact ⟨_, _, _, _, rfl, (by (repeat' apply And.intro) <;> first | trivial | exact Nat.le_of_ble_eq_true rfl | rfl), rfl, (by (repeat' apply And.intro) <;> first | trivial | exact Nat.le_of_ble_eq_true rfl | rfl), CoL.refl _⟩
end Go.Hx
end
