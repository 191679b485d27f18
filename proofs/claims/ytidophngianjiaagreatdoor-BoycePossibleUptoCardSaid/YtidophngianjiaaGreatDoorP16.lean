/- A part of the proof: lemmas for the theorem of this claim, merged by a program of ours out of HxEnv. -/
import Derived.Test.YtidophngianjiaaGreatDoorProg
import Derived.Test.YtidophngianjiaaGreatDoorP15
set_option linter.all false
section
namespace Go.Hx
open Go.Proofs
def TryzTypes : List (Option TI) := [
 none,
 some ⟨.func, 1, 8, some [.nilFunc], false, false, true⟩,
 some ⟨.int .i64, 1, 8, some [.int .i64 0], false, false, true⟩,
 some ⟨.int .i64, 1, 8, some [.int .i64 0], false, false, true⟩,
 some ⟨.bool, 1, 1, some [.bool false], false, false, true⟩,
 some ⟨.int .u8, 1, 1, some [.int .u8 0], false, false, true⟩,
 some ⟨.int .u8, 1, 1, some [.int .u8 0], false, false, true⟩,
 some ⟨.struct [(0, 2, false), (1, 3, false), (2, 4, false), (3, 6, false)], 4, 24, some [.int .i64 0, .int .i64 0, .bool false, .int .u8 0], false, false, false⟩,
 some ⟨.struct [(0, 2, false), (1, 3, false), (2, 4, false), (3, 6, false)], 4, 24, some [.int .i64 0, .int .i64 0, .bool false, .int .u8 0], false, false, false⟩,
 some ⟨.string, 1, 16, some [.string ⟨#[]⟩], false, false, true⟩,
 some ⟨.string, 1, 16, some [.string ⟨#[]⟩], false, false, true⟩,
 some ⟨.string, 1, 16, some [.string ⟨#[]⟩], false, false, true⟩,
 some ⟨.int .u64, 1, 8, some [.int .u64 0], false, false, true⟩,
 none,
 none,
 some ⟨.pointer 240, 1, 8, some [.pointer none], false, false, true⟩,
 some ⟨.pointer 243, 1, 8, some [.pointer none], false, false, true⟩,
 some ⟨.pointer 252, 1, 8, some [.pointer none], false, false, true⟩,
 none,
 none,
 none,
 some ⟨.int .i32, 1, 4, some [.int .i32 0], false, false, true⟩,
 some ⟨.slice 136, 1, 24, some [.slice none 0 0], false, false, true⟩,
 some ⟨.struct [(0, 5, false), (1, 22, false)], 2, 32, some [.int .u8 0, .slice none 0 0], false, false, false⟩,
 some ⟨.struct [(0, 5, false), (1, 22, false)], 2, 32, some [.int .u8 0, .slice none 0 0], false, false, false⟩,
 some ⟨.struct [(0, 24, false), (2, 22, false)], 3, 56, some [.int .u8 0, .slice none 0 0, .slice none 0 0], false, false, false⟩,
 some ⟨.struct [(0, 24, false), (2, 22, false)], 3, 56, some [.int .u8 0, .slice none 0 0, .slice none 0 0], false, false, false⟩,
 some ⟨.slice 40, 1, 24, some [.slice none 0 0], false, false, true⟩,
 some ⟨.slice 42, 1, 24, some [.slice none 0 0], false, false, true⟩,
 none,
 some ⟨.func, 1, 8, some [.nilFunc], false, false, true⟩,
 some ⟨.func, 1, 8, some [.nilFunc], false, false, true⟩,
 some ⟨.slice 38, 1, 24, some [.slice none 0 0], false, false, true⟩,
 some ⟨.int .i64, 1, 8, some [.int .i64 0], false, false, true⟩,
 none,
 some ⟨.func, 1, 8, some [.nilFunc], false, false, true⟩,
 some ⟨.func, 1, 8, some [.nilFunc], false, false, true⟩,
 some ⟨.int .u32, 1, 4, some [.int .u32 0], false, false, true⟩,
 some ⟨.int .u32, 1, 4, some [.int .u32 0], false, false, true⟩,
 some ⟨.struct [(0, 38, false), (1, 38, false)], 2, 8, some [.int .u32 0, .int .u32 0], false, false, false⟩,
 some ⟨.struct [(0, 38, false), (1, 38, false)], 2, 8, some [.int .u32 0, .int .u32 0], false, false, false⟩,
 some ⟨.func, 1, 8, some [.nilFunc], false, false, true⟩,
 some ⟨.struct [(0, 38, false), (1, 38, false)], 2, 8, some [.int .u32 0, .int .u32 0], false, false, false⟩,
 some ⟨.func, 1, 8, some [.nilFunc], false, false, true⟩,
 some ⟨.func, 1, 8, some [.nilFunc], false, false, true⟩,
 none,
 some ⟨.func, 1, 8, some [.nilFunc], false, false, true⟩,
 some ⟨.func, 1, 8, some [.nilFunc], false, false, true⟩,
 some ⟨.func, 1, 8, some [.nilFunc], false, false, true⟩,
 some ⟨.slice 5, 1, 24, some [.slice none 0 0], false, false, true⟩,
 some ⟨.func, 1, 8, some [.nilFunc], false, false, true⟩,
 some ⟨.func, 1, 8, some [.nilFunc], false, false, true⟩,
 some ⟨.func, 1, 8, some [.nilFunc], false, false, true⟩,
 some ⟨.func, 1, 8, some [.nilFunc], false, false, true⟩,
 some ⟨.array 2 38, 2, 8, some [.int .u32 0, .int .u32 0], false, false, false⟩,
 some ⟨.func, 1, 8, some [.nilFunc], false, false, true⟩,
 some ⟨.func, 1, 8, some [.nilFunc], false, false, true⟩,
 none,
 some ⟨.func, 1, 8, some [.nilFunc], false, false, true⟩,
 some ⟨.func, 1, 8, some [.nilFunc], false, false, true⟩,
 some ⟨.func, 1, 8, some [.nilFunc], false, false, true⟩,
 none,
 some ⟨.func, 1, 8, some [.nilFunc], false, false, true⟩,
 some ⟨.func, 1, 8, some [.nilFunc], false, false, true⟩,
 some ⟨.func, 1, 8, some [.nilFunc], false, false, true⟩,
 some ⟨.func, 1, 8, some [.nilFunc], false, false, true⟩,
 some ⟨.func, 1, 8, some [.nilFunc], false, false, true⟩,
 none,
 some ⟨.func, 1, 8, some [.nilFunc], false, false, true⟩,
 some ⟨.func, 1, 8, some [.nilFunc], false, false, true⟩,
 some ⟨.func, 1, 8, some [.nilFunc], false, false, true⟩,
 some ⟨.func, 1, 8, some [.nilFunc], false, false, true⟩,
 some ⟨.func, 1, 8, some [.nilFunc], false, false, true⟩,
 some ⟨.func, 1, 8, some [.nilFunc], false, false, true⟩,
 some ⟨.func, 1, 8, some [.nilFunc], false, false, true⟩,
 some ⟨.func, 1, 8, some [.nilFunc], false, false, true⟩,
 some ⟨.slice 155, 1, 24, some [.slice none 0 0], false, false, true⟩,
 none,
 some ⟨.func, 1, 8, some [.nilFunc], false, false, true⟩,
 none,
 some ⟨.func, 1, 8, some [.nilFunc], false, false, true⟩,
 some ⟨.func, 1, 8, some [.nilFunc], false, false, true⟩,
 none,
 some ⟨.func, 1, 8, some [.nilFunc], false, false, true⟩,
 some ⟨.func, 1, 8, some [.nilFunc], false, false, true⟩,
 some ⟨.func, 1, 8, some [.nilFunc], false, false, true⟩,
 none,
 some ⟨.func, 1, 8, some [.nilFunc], false, false, true⟩,
 none,
 some ⟨.func, 1, 8, some [.nilFunc], false, false, true⟩,
 none,
 some ⟨.func, 1, 8, some [.nilFunc], false, false, true⟩,
 some ⟨.func, 1, 8, some [.nilFunc], false, false, true⟩,
 some ⟨.func, 1, 8, some [.nilFunc], false, false, true⟩,
 some ⟨.func, 1, 8, some [.nilFunc], false, false, true⟩,
 some ⟨.func, 1, 8, some [.nilFunc], false, false, true⟩,
 some ⟨.func, 1, 8, some [.nilFunc], false, false, true⟩,
 some ⟨.func, 1, 8, some [.nilFunc], false, false, true⟩,
 some ⟨.func, 1, 8, some [.nilFunc], false, false, true⟩,
 some ⟨.func, 1, 8, some [.nilFunc], false, false, true⟩,
 some ⟨.func, 1, 8, some [.nilFunc], false, false, true⟩,
 some ⟨.func, 1, 8, some [.nilFunc], false, false, true⟩,
 some ⟨.func, 1, 8, some [.nilFunc], false, false, true⟩,
 none,
 some ⟨.func, 1, 8, some [.nilFunc], false, false, true⟩,
 some ⟨.func, 1, 8, some [.nilFunc], false, false, true⟩,
 some ⟨.func, 1, 8, some [.nilFunc], false, false, true⟩,
 some ⟨.func, 1, 8, some [.nilFunc], false, false, true⟩,
 some ⟨.func, 1, 8, some [.nilFunc], false, false, true⟩,
 some ⟨.func, 1, 8, some [.nilFunc], false, false, true⟩,
 some ⟨.func, 1, 8, some [.nilFunc], false, false, true⟩,
 some ⟨.func, 1, 8, some [.nilFunc], false, false, true⟩,
 some ⟨.func, 1, 8, some [.nilFunc], false, false, true⟩,
 some ⟨.func, 1, 8, some [.nilFunc], false, false, true⟩,
 some ⟨.slice 120, 1, 24, some [.slice none 0 0], false, false, true⟩,
 none,
 some ⟨.func, 1, 8, some [.nilFunc], false, false, true⟩,
 some ⟨.func, 1, 8, some [.nilFunc], false, false, true⟩,
 some ⟨.slice 121, 1, 24, some [.slice none 0 0], false, false, true⟩,
 some ⟨.struct [(0, 3, false), (1, 118, false)], 2, 32, some [.int .i64 0, .slice none 0 0], false, false, false⟩,
 some ⟨.struct [(0, 3, false), (1, 118, false)], 2, 32, some [.int .i64 0, .slice none 0 0], false, false, false⟩,
 some ⟨.slice 3, 1, 24, some [.slice none 0 0], false, false, true⟩,
 some ⟨.func, 1, 8, some [.nilFunc], false, false, true⟩,
 none,
 some ⟨.func, 1, 8, some [.nilFunc], false, false, true⟩,
 some ⟨.func, 1, 8, some [.nilFunc], false, false, true⟩,
 some ⟨.func, 1, 8, some [.nilFunc], false, false, true⟩,
 some ⟨.func, 1, 8, some [.nilFunc], false, false, true⟩,
 some ⟨.func, 1, 8, some [.nilFunc], false, false, true⟩,
 some ⟨.func, 1, 8, some [.nilFunc], false, false, true⟩,
 some ⟨.func, 1, 8, some [.nilFunc], false, false, true⟩,
 some ⟨.func, 1, 8, some [.nilFunc], false, false, true⟩,
 some ⟨.func, 1, 8, some [.nilFunc], false, false, true⟩,
 some ⟨.func, 1, 8, some [.nilFunc], false, false, true⟩,
 some ⟨.func, 1, 8, some [.nilFunc], false, false, true⟩,
 some ⟨.struct [(0, 5, false), (1, 5, false)], 2, 2, some [.int .u8 0, .int .u8 0], false, false, false⟩,
 some ⟨.struct [(0, 5, false), (1, 5, false)], 2, 2, some [.int .u8 0, .int .u8 0], false, false, false⟩,
 some ⟨.int .u64, 1, 8, some [.int .u64 0], false, false, true⟩,
 some ⟨.func, 1, 8, some [.nilFunc], false, false, true⟩,
 some ⟨.func, 1, 8, some [.nilFunc], false, false, true⟩,
 some ⟨.func, 1, 8, some [.nilFunc], false, false, true⟩,
 some ⟨.func, 1, 8, some [.nilFunc], false, false, true⟩,
 some ⟨.func, 1, 8, some [.nilFunc], false, false, true⟩,
 some ⟨.func, 1, 8, some [.nilFunc], false, false, true⟩,
 some ⟨.func, 1, 8, some [.nilFunc], false, false, true⟩,
 none,
 some ⟨.func, 1, 8, some [.nilFunc], false, false, true⟩,
 some ⟨.func, 1, 8, some [.nilFunc], false, false, true⟩,
 some ⟨.func, 1, 8, some [.nilFunc], false, false, true⟩,
 none,
 some ⟨.func, 1, 8, some [.nilFunc], false, false, true⟩,
 none,
 some ⟨.func, 1, 8, some [.nilFunc], false, false, true⟩,
 some ⟨.func, 1, 8, some [.nilFunc], false, false, true⟩,
 some ⟨.struct [(0, 4, false), (1, 3, false), (2, 3, false), (3, 3, false)], 4, 32, some [.bool false, .int .i64 0, .int .i64 0, .int .i64 0], false, false, false⟩,
 some ⟨.struct [(0, 4, false), (1, 3, false), (2, 3, false), (3, 3, false)], 4, 32, some [.bool false, .int .i64 0, .int .i64 0, .int .i64 0], false, false, false⟩,
 some ⟨.func, 1, 8, some [.nilFunc], false, false, true⟩,
 some ⟨.func, 1, 8, some [.nilFunc], false, false, true⟩,
 some ⟨.func, 1, 8, some [.nilFunc], false, false, true⟩,
 some ⟨.int .u64, 1, 8, some [.int .u64 0], false, false, true⟩,
 some ⟨.func, 1, 8, some [.nilFunc], false, false, true⟩,
 some ⟨.struct [(0, 32, false)], 1, 24, some [.slice none 0 0], false, false, false⟩,
 some ⟨.struct [(0, 32, false)], 1, 24, some [.slice none 0 0], false, false, false⟩,
 some ⟨.func, 1, 8, some [.nilFunc], false, false, true⟩,
 some ⟨.func, 1, 8, some [.nilFunc], false, false, true⟩,
 some ⟨.func, 1, 8, some [.nilFunc], false, false, true⟩,
 some ⟨.func, 1, 8, some [.nilFunc], false, false, true⟩,
 some ⟨.func, 1, 8, some [.nilFunc], false, false, true⟩,
 some ⟨.func, 1, 8, some [.nilFunc], false, false, true⟩,
 some ⟨.func, 1, 8, some [.nilFunc], false, false, true⟩,
 some ⟨.func, 1, 8, some [.nilFunc], false, false, true⟩,
 some ⟨.func, 1, 8, some [.nilFunc], false, false, true⟩,
 some ⟨.func, 1, 8, some [.nilFunc], false, false, true⟩,
 some ⟨.slice 4, 1, 24, some [.slice none 0 0], false, false, true⟩,
 some ⟨.func, 1, 8, some [.nilFunc], false, false, true⟩,
 some ⟨.func, 1, 8, some [.nilFunc], false, false, true⟩,
 some ⟨.func, 1, 8, some [.nilFunc], false, false, true⟩,
 some ⟨.map 38 38, 1, 8, some [.map none], false, false, true⟩,
 some ⟨.func, 1, 8, some [.nilFunc], false, false, true⟩,
 some ⟨.func, 1, 8, some [.nilFunc], false, false, true⟩,
 some ⟨.func, 1, 8, some [.nilFunc], false, false, true⟩,
 none,
 some ⟨.func, 1, 8, some [.nilFunc], false, false, true⟩,
 some ⟨.func, 1, 8, some [.nilFunc], false, false, true⟩,
 some ⟨.func, 1, 8, some [.nilFunc], false, false, true⟩,
 some ⟨.func, 1, 8, some [.nilFunc], false, false, true⟩,
 some ⟨.func, 1, 8, some [.nilFunc], false, false, true⟩,
 some ⟨.func, 1, 8, some [.nilFunc], false, false, true⟩,
 some ⟨.func, 1, 8, some [.nilFunc], false, false, true⟩,
 some ⟨.func, 1, 8, some [.nilFunc], false, false, true⟩,
 some ⟨.func, 1, 8, some [.nilFunc], false, false, true⟩,
 some ⟨.int .i64, 1, 8, some [.int .i64 0], false, false, true⟩,
 none,
 some ⟨.func, 1, 8, some [.nilFunc], false, false, true⟩,
 some ⟨.func, 1, 8, some [.nilFunc], false, false, true⟩,
 some ⟨.func, 1, 8, some [.nilFunc], false, false, true⟩,
 some ⟨.func, 1, 8, some [.nilFunc], false, false, true⟩,
 some ⟨.func, 1, 8, some [.nilFunc], false, false, true⟩,
 some ⟨.func, 1, 8, some [.nilFunc], false, false, true⟩,
 some ⟨.func, 1, 8, some [.nilFunc], false, false, true⟩,
 some ⟨.func, 1, 8, some [.nilFunc], false, false, true⟩,
 some ⟨.func, 1, 8, some [.nilFunc], false, false, true⟩,
 none,
 some ⟨.func, 1, 8, some [.nilFunc], false, false, true⟩,
 some ⟨.func, 1, 8, some [.nilFunc], false, false, true⟩,
 some ⟨.func, 1, 8, some [.nilFunc], false, false, true⟩,
 some ⟨.func, 1, 8, some [.nilFunc], false, false, true⟩,
 some ⟨.func, 1, 8, some [.nilFunc], false, false, true⟩,
 some ⟨.func, 1, 8, some [.nilFunc], false, false, true⟩,
 some ⟨.func, 1, 8, some [.nilFunc], false, false, true⟩,
 some ⟨.func, 1, 8, some [.nilFunc], false, false, true⟩,
 some ⟨.pointer 162, 1, 8, some [.pointer none], false, false, true⟩,
 some ⟨.func, 1, 8, some [.nilFunc], false, false, true⟩,
 some ⟨.array 32 5, 32, 32, some [.int .u8 0, .int .u8 0, .int .u8 0, .int .u8 0, .int .u8 0, .int .u8 0, .int .u8 0, .int .u8 0, .int .u8 0, .int .u8 0, .int .u8 0, .int .u8 0, .int .u8 0, .int .u8 0, .int .u8 0, .int .u8 0, .int .u8 0, .int .u8 0, .int .u8 0, .int .u8 0, .int .u8 0, .int .u8 0, .int .u8 0, .int .u8 0, .int .u8 0, .int .u8 0, .int .u8 0, .int .u8 0, .int .u8 0, .int .u8 0, .int .u8 0, .int .u8 0], false, false, false⟩,
 some ⟨.int .u64, 1, 8, some [.int .u64 0], false, false, true⟩,
 some ⟨.func, 1, 8, some [.nilFunc], false, false, true⟩,
 some ⟨.func, 1, 8, some [.nilFunc], false, false, true⟩,
 some ⟨.func, 1, 8, some [.nilFunc], false, false, true⟩,
 some ⟨.pointer 3, 1, 8, some [.pointer none], false, false, true⟩,
 some ⟨.func, 1, 8, some [.nilFunc], false, false, true⟩,
 some ⟨.func, 1, 8, some [.nilFunc], false, false, true⟩,
 some ⟨.func, 1, 8, some [.nilFunc], false, false, true⟩,
 some ⟨.func, 1, 8, some [.nilFunc], false, false, true⟩,
 some ⟨.func, 1, 8, some [.nilFunc], false, false, true⟩,
 some ⟨.pointer 214, 1, 8, some [.pointer none], false, false, true⟩,
 none,
 some ⟨.func, 1, 8, some [.nilFunc], false, false, true⟩,
 some ⟨.func, 1, 8, some [.nilFunc], false, false, true⟩,
 some ⟨.slice 27, 1, 24, some [.slice none 0 0], false, false, true⟩,
 some ⟨.func, 1, 8, some [.nilFunc], false, false, true⟩,
 some ⟨.func, 1, 8, some [.nilFunc], false, false, true⟩,
 some ⟨.func, 1, 8, some [.nilFunc], false, false, true⟩,
 some ⟨.func, 1, 8, some [.nilFunc], false, false, true⟩,
 some ⟨.func, 1, 8, some [.nilFunc], false, false, true⟩,
 some ⟨.func, 1, 8, some [.nilFunc], false, false, true⟩,
 some ⟨.func, 1, 8, some [.nilFunc], false, false, true⟩,
 some ⟨.func, 1, 8, some [.nilFunc], false, false, true⟩,
 some ⟨.func, 1, 8, some [.nilFunc], false, false, true⟩,
 some ⟨.func, 1, 8, some [.nilFunc], false, false, true⟩,
 none,
 none,
 some ⟨.array 0 16, 0, 0, some [], false, false, false⟩,
 none,
 none,
 some ⟨.func, 1, 8, some [.nilFunc], false, false, true⟩,
 some ⟨.int .u8, 1, 1, some [.int .u8 0], false, false, true⟩,
 some ⟨.int .u8, 1, 1, some [.int .u8 0], false, false, true⟩,
 some ⟨.func, 1, 8, some [.nilFunc], false, false, true⟩,
 some ⟨.pointer 5, 1, 8, some [.pointer none], false, false, true⟩,
 some ⟨.int .i32, 1, 4, some [.int .i32 0], false, false, true⟩,
 some ⟨.int .i32, 1, 4, some [.int .i32 0], false, false, true⟩,
 none,
 none,
 none]
def optOf : List (Option TI) → Nat → Option TI
 | [], _ => none
 | x :: _, 0 => x
 | _ :: r, n + 1 => optOf r n
def TryzE : Env := optOf TryzTypes
def fits (P : Program) : List (Option TI) → Nat → Prop
 | [], _ => True
 | none :: r, n => fits P r (n + 1)
 | some i :: r, n => tiOf P n = some i ∧ fits P r (n + 1)
theorem fits_spec {P : Program} : ∀ {l : List (Option TI)} {n : Nat}, fits P l n → ∀ t i, optOf l t = some i → tiOf P (n + t) = some i
 | [], _, _, t, i, h => by simp [optOf] at h
 | none :: r, n, hf, 0, i, h => by simp [optOf] at h
 | some x :: r, n, hf, 0, i, h => by simp only [optOf, Option.some.injEq] at h; subst h; exact hf.1
 | none :: r, n, hf, t + 1, i, h => by have := fits_spec (l := r) (n := n + 1) hf t i h; rwa [show n + (t + 1) = n + 1 + t by omega]
 | some x :: r, n, hf, t + 1, i, h => by have := fits_spec (l := r) (n := n + 1) hf.2 t i h; rwa [show n + (t + 1) = n + 1 + t by omega]
theorem Tryzti1 : tiOf Tryz.prog 1 = some ⟨.func, 1, 8, some [.nilFunc], false, false, true⟩ := by kernel_rfl
theorem Tryzti2 : tiOf Tryz.prog 2 = some ⟨.int .i64, 1, 8, some [.int .i64 0], false, false, true⟩ := by kernel_rfl
theorem Tryzti3 : tiOf Tryz.prog 3 = some ⟨.int .i64, 1, 8, some [.int .i64 0], false, false, true⟩ := by kernel_rfl
theorem Tryzti4 : tiOf Tryz.prog 4 = some ⟨.bool, 1, 1, some [.bool false], false, false, true⟩ := by kernel_rfl
theorem Tryzti5 : tiOf Tryz.prog 5 = some ⟨.int .u8, 1, 1, some [.int .u8 0], false, false, true⟩ := by kernel_rfl
theorem Tryzti6 : tiOf Tryz.prog 6 = some ⟨.int .u8, 1, 1, some [.int .u8 0], false, false, true⟩ := by kernel_rfl
theorem Tryzti7 : tiOf Tryz.prog 7 = some ⟨.struct [(0, 2, false), (1, 3, false), (2, 4, false), (3, 6, false)], 4, 24, some [.int .i64 0, .int .i64 0, .bool false, .int .u8 0], false, false, false⟩ := by kernel_rfl
theorem Tryzti8 : tiOf Tryz.prog 8 = some ⟨.struct [(0, 2, false), (1, 3, false), (2, 4, false), (3, 6, false)], 4, 24, some [.int .i64 0, .int .i64 0, .bool false, .int .u8 0], false, false, false⟩ := by kernel_rfl
theorem Tryzti9 : tiOf Tryz.prog 9 = some ⟨.string, 1, 16, some [.string ⟨#[]⟩], false, false, true⟩ := by kernel_rfl
theorem Tryzti10 : tiOf Tryz.prog 10 = some ⟨.string, 1, 16, some [.string ⟨#[]⟩], false, false, true⟩ := by kernel_rfl
theorem Tryzti11 : tiOf Tryz.prog 11 = some ⟨.string, 1, 16, some [.string ⟨#[]⟩], false, false, true⟩ := by kernel_rfl
theorem Tryzti12 : tiOf Tryz.prog 12 = some ⟨.int .u64, 1, 8, some [.int .u64 0], false, false, true⟩ := by kernel_rfl
theorem Tryzti15 : tiOf Tryz.prog 15 = some ⟨.pointer 240, 1, 8, some [.pointer none], false, false, true⟩ := by kernel_rfl
theorem Tryzti16 : tiOf Tryz.prog 16 = some ⟨.pointer 243, 1, 8, some [.pointer none], false, false, true⟩ := by kernel_rfl
theorem Tryzti17 : tiOf Tryz.prog 17 = some ⟨.pointer 252, 1, 8, some [.pointer none], false, false, true⟩ := by kernel_rfl
theorem Tryzti21 : tiOf Tryz.prog 21 = some ⟨.int .i32, 1, 4, some [.int .i32 0], false, false, true⟩ := by kernel_rfl
theorem Tryzti22 : tiOf Tryz.prog 22 = some ⟨.slice 136, 1, 24, some [.slice none 0 0], false, false, true⟩ := by kernel_rfl
theorem Tryzti23 : tiOf Tryz.prog 23 = some ⟨.struct [(0, 5, false), (1, 22, false)], 2, 32, some [.int .u8 0, .slice none 0 0], false, false, false⟩ := by kernel_rfl
theorem Tryzti24 : tiOf Tryz.prog 24 = some ⟨.struct [(0, 5, false), (1, 22, false)], 2, 32, some [.int .u8 0, .slice none 0 0], false, false, false⟩ := by kernel_rfl
theorem Tryzti25 : tiOf Tryz.prog 25 = some ⟨.struct [(0, 24, false), (2, 22, false)], 3, 56, some [.int .u8 0, .slice none 0 0, .slice none 0 0], false, false, false⟩ := by kernel_rfl
theorem Tryzti26 : tiOf Tryz.prog 26 = some ⟨.struct [(0, 24, false), (2, 22, false)], 3, 56, some [.int .u8 0, .slice none 0 0, .slice none 0 0], false, false, false⟩ := by kernel_rfl
theorem Tryzti27 : tiOf Tryz.prog 27 = some ⟨.slice 40, 1, 24, some [.slice none 0 0], false, false, true⟩ := by kernel_rfl
theorem Tryzti28 : tiOf Tryz.prog 28 = some ⟨.slice 42, 1, 24, some [.slice none 0 0], false, false, true⟩ := by kernel_rfl
theorem Tryzti30 : tiOf Tryz.prog 30 = some ⟨.func, 1, 8, some [.nilFunc], false, false, true⟩ := by kernel_rfl
theorem Tryzti31 : tiOf Tryz.prog 31 = some ⟨.func, 1, 8, some [.nilFunc], false, false, true⟩ := by kernel_rfl
theorem Tryzti32 : tiOf Tryz.prog 32 = some ⟨.slice 38, 1, 24, some [.slice none 0 0], false, false, true⟩ := by kernel_rfl
theorem Tryzti33 : tiOf Tryz.prog 33 = some ⟨.int .i64, 1, 8, some [.int .i64 0], false, false, true⟩ := by kernel_rfl
theorem Tryzti35 : tiOf Tryz.prog 35 = some ⟨.func, 1, 8, some [.nilFunc], false, false, true⟩ := by kernel_rfl
theorem Tryzti36 : tiOf Tryz.prog 36 = some ⟨.func, 1, 8, some [.nilFunc], false, false, true⟩ := by kernel_rfl
theorem Tryzti37 : tiOf Tryz.prog 37 = some ⟨.int .u32, 1, 4, some [.int .u32 0], false, false, true⟩ := by kernel_rfl
theorem Tryzti38 : tiOf Tryz.prog 38 = some ⟨.int .u32, 1, 4, some [.int .u32 0], false, false, true⟩ := by kernel_rfl
theorem Tryzti39 : tiOf Tryz.prog 39 = some ⟨.struct [(0, 38, false), (1, 38, false)], 2, 8, some [.int .u32 0, .int .u32 0], false, false, false⟩ := by kernel_rfl
theorem Tryzti40 : tiOf Tryz.prog 40 = some ⟨.struct [(0, 38, false), (1, 38, false)], 2, 8, some [.int .u32 0, .int .u32 0], false, false, false⟩ := by kernel_rfl
theorem Tryzti41 : tiOf Tryz.prog 41 = some ⟨.func, 1, 8, some [.nilFunc], false, false, true⟩ := by kernel_rfl
theorem Tryzti42 : tiOf Tryz.prog 42 = some ⟨.struct [(0, 38, false), (1, 38, false)], 2, 8, some [.int .u32 0, .int .u32 0], false, false, false⟩ := by kernel_rfl
theorem Tryzti43 : tiOf Tryz.prog 43 = some ⟨.func, 1, 8, some [.nilFunc], false, false, true⟩ := by kernel_rfl
theorem Tryzti44 : tiOf Tryz.prog 44 = some ⟨.func, 1, 8, some [.nilFunc], false, false, true⟩ := by kernel_rfl
theorem Tryzti46 : tiOf Tryz.prog 46 = some ⟨.func, 1, 8, some [.nilFunc], false, false, true⟩ := by kernel_rfl
theorem Tryzti47 : tiOf Tryz.prog 47 = some ⟨.func, 1, 8, some [.nilFunc], false, false, true⟩ := by kernel_rfl
theorem Tryzti48 : tiOf Tryz.prog 48 = some ⟨.func, 1, 8, some [.nilFunc], false, false, true⟩ := by kernel_rfl
theorem Tryzti49 : tiOf Tryz.prog 49 = some ⟨.slice 5, 1, 24, some [.slice none 0 0], false, false, true⟩ := by kernel_rfl
theorem Tryzti50 : tiOf Tryz.prog 50 = some ⟨.func, 1, 8, some [.nilFunc], false, false, true⟩ := by kernel_rfl
theorem Tryzti51 : tiOf Tryz.prog 51 = some ⟨.func, 1, 8, some [.nilFunc], false, false, true⟩ := by kernel_rfl
theorem Tryzti52 : tiOf Tryz.prog 52 = some ⟨.func, 1, 8, some [.nilFunc], false, false, true⟩ := by kernel_rfl
theorem Tryzti53 : tiOf Tryz.prog 53 = some ⟨.func, 1, 8, some [.nilFunc], false, false, true⟩ := by kernel_rfl
theorem Tryzti54 : tiOf Tryz.prog 54 = some ⟨.array 2 38, 2, 8, some [.int .u32 0, .int .u32 0], false, false, false⟩ := by kernel_rfl
theorem Tryzti55 : tiOf Tryz.prog 55 = some ⟨.func, 1, 8, some [.nilFunc], false, false, true⟩ := by kernel_rfl
theorem Tryzti56 : tiOf Tryz.prog 56 = some ⟨.func, 1, 8, some [.nilFunc], false, false, true⟩ := by kernel_rfl
theorem Tryzti58 : tiOf Tryz.prog 58 = some ⟨.func, 1, 8, some [.nilFunc], false, false, true⟩ := by kernel_rfl
theorem Tryzti59 : tiOf Tryz.prog 59 = some ⟨.func, 1, 8, some [.nilFunc], false, false, true⟩ := by kernel_rfl
theorem Tryzti60 : tiOf Tryz.prog 60 = some ⟨.func, 1, 8, some [.nilFunc], false, false, true⟩ := by kernel_rfl
theorem Tryzti62 : tiOf Tryz.prog 62 = some ⟨.func, 1, 8, some [.nilFunc], false, false, true⟩ := by kernel_rfl
theorem Tryzti63 : tiOf Tryz.prog 63 = some ⟨.func, 1, 8, some [.nilFunc], false, false, true⟩ := by kernel_rfl
theorem Tryzti64 : tiOf Tryz.prog 64 = some ⟨.func, 1, 8, some [.nilFunc], false, false, true⟩ := by kernel_rfl
theorem Tryzti65 : tiOf Tryz.prog 65 = some ⟨.func, 1, 8, some [.nilFunc], false, false, true⟩ := by kernel_rfl
theorem Tryzti66 : tiOf Tryz.prog 66 = some ⟨.func, 1, 8, some [.nilFunc], false, false, true⟩ := by kernel_rfl
theorem Tryzti68 : tiOf Tryz.prog 68 = some ⟨.func, 1, 8, some [.nilFunc], false, false, true⟩ := by kernel_rfl
theorem Tryzti69 : tiOf Tryz.prog 69 = some ⟨.func, 1, 8, some [.nilFunc], false, false, true⟩ := by kernel_rfl
theorem Tryzti70 : tiOf Tryz.prog 70 = some ⟨.func, 1, 8, some [.nilFunc], false, false, true⟩ := by kernel_rfl
theorem Tryzti71 : tiOf Tryz.prog 71 = some ⟨.func, 1, 8, some [.nilFunc], false, false, true⟩ := by kernel_rfl
theorem Tryzti72 : tiOf Tryz.prog 72 = some ⟨.func, 1, 8, some [.nilFunc], false, false, true⟩ := by kernel_rfl
theorem Tryzti73 : tiOf Tryz.prog 73 = some ⟨.func, 1, 8, some [.nilFunc], false, false, true⟩ := by kernel_rfl
theorem Tryzti74 : tiOf Tryz.prog 74 = some ⟨.func, 1, 8, some [.nilFunc], false, false, true⟩ := by kernel_rfl
theorem Tryzti75 : tiOf Tryz.prog 75 = some ⟨.func, 1, 8, some [.nilFunc], false, false, true⟩ := by kernel_rfl
theorem Tryzti76 : tiOf Tryz.prog 76 = some ⟨.slice 155, 1, 24, some [.slice none 0 0], false, false, true⟩ := by kernel_rfl
theorem Tryzti78 : tiOf Tryz.prog 78 = some ⟨.func, 1, 8, some [.nilFunc], false, false, true⟩ := by kernel_rfl
theorem Tryzti80 : tiOf Tryz.prog 80 = some ⟨.func, 1, 8, some [.nilFunc], false, false, true⟩ := by kernel_rfl
theorem Tryzti81 : tiOf Tryz.prog 81 = some ⟨.func, 1, 8, some [.nilFunc], false, false, true⟩ := by kernel_rfl
theorem Tryzti83 : tiOf Tryz.prog 83 = some ⟨.func, 1, 8, some [.nilFunc], false, false, true⟩ := by kernel_rfl
theorem Tryzti84 : tiOf Tryz.prog 84 = some ⟨.func, 1, 8, some [.nilFunc], false, false, true⟩ := by kernel_rfl
theorem Tryzti85 : tiOf Tryz.prog 85 = some ⟨.func, 1, 8, some [.nilFunc], false, false, true⟩ := by kernel_rfl
theorem Tryzti87 : tiOf Tryz.prog 87 = some ⟨.func, 1, 8, some [.nilFunc], false, false, true⟩ := by kernel_rfl
theorem Tryzti89 : tiOf Tryz.prog 89 = some ⟨.func, 1, 8, some [.nilFunc], false, false, true⟩ := by kernel_rfl
theorem Tryzti91 : tiOf Tryz.prog 91 = some ⟨.func, 1, 8, some [.nilFunc], false, false, true⟩ := by kernel_rfl
theorem Tryzti92 : tiOf Tryz.prog 92 = some ⟨.func, 1, 8, some [.nilFunc], false, false, true⟩ := by kernel_rfl
theorem Tryzti93 : tiOf Tryz.prog 93 = some ⟨.func, 1, 8, some [.nilFunc], false, false, true⟩ := by kernel_rfl
theorem Tryzti94 : tiOf Tryz.prog 94 = some ⟨.func, 1, 8, some [.nilFunc], false, false, true⟩ := by kernel_rfl
theorem Tryzti95 : tiOf Tryz.prog 95 = some ⟨.func, 1, 8, some [.nilFunc], false, false, true⟩ := by kernel_rfl
theorem Tryzti96 : tiOf Tryz.prog 96 = some ⟨.func, 1, 8, some [.nilFunc], false, false, true⟩ := by kernel_rfl
theorem Tryzti97 : tiOf Tryz.prog 97 = some ⟨.func, 1, 8, some [.nilFunc], false, false, true⟩ := by kernel_rfl
theorem Tryzti98 : tiOf Tryz.prog 98 = some ⟨.func, 1, 8, some [.nilFunc], false, false, true⟩ := by kernel_rfl
theorem Tryzti99 : tiOf Tryz.prog 99 = some ⟨.func, 1, 8, some [.nilFunc], false, false, true⟩ := by kernel_rfl
theorem Tryzti100 : tiOf Tryz.prog 100 = some ⟨.func, 1, 8, some [.nilFunc], false, false, true⟩ := by kernel_rfl
theorem Tryzti101 : tiOf Tryz.prog 101 = some ⟨.func, 1, 8, some [.nilFunc], false, false, true⟩ := by kernel_rfl
theorem Tryzti102 : tiOf Tryz.prog 102 = some ⟨.func, 1, 8, some [.nilFunc], false, false, true⟩ := by kernel_rfl
theorem Tryzti104 : tiOf Tryz.prog 104 = some ⟨.func, 1, 8, some [.nilFunc], false, false, true⟩ := by kernel_rfl
theorem Tryzti105 : tiOf Tryz.prog 105 = some ⟨.func, 1, 8, some [.nilFunc], false, false, true⟩ := by kernel_rfl
theorem Tryzti106 : tiOf Tryz.prog 106 = some ⟨.func, 1, 8, some [.nilFunc], false, false, true⟩ := by kernel_rfl
theorem Tryzti107 : tiOf Tryz.prog 107 = some ⟨.func, 1, 8, some [.nilFunc], false, false, true⟩ := by kernel_rfl
theorem Tryzti108 : tiOf Tryz.prog 108 = some ⟨.func, 1, 8, some [.nilFunc], false, false, true⟩ := by kernel_rfl
theorem Tryzti109 : tiOf Tryz.prog 109 = some ⟨.func, 1, 8, some [.nilFunc], false, false, true⟩ := by kernel_rfl
theorem Tryzti110 : tiOf Tryz.prog 110 = some ⟨.func, 1, 8, some [.nilFunc], false, false, true⟩ := by kernel_rfl
theorem Tryzti111 : tiOf Tryz.prog 111 = some ⟨.func, 1, 8, some [.nilFunc], false, false, true⟩ := by kernel_rfl
theorem Tryzti112 : tiOf Tryz.prog 112 = some ⟨.func, 1, 8, some [.nilFunc], false, false, true⟩ := by kernel_rfl
theorem Tryzti113 : tiOf Tryz.prog 113 = some ⟨.func, 1, 8, some [.nilFunc], false, false, true⟩ := by kernel_rfl
theorem Tryzti114 : tiOf Tryz.prog 114 = some ⟨.slice 120, 1, 24, some [.slice none 0 0], false, false, true⟩ := by kernel_rfl
theorem Tryzti116 : tiOf Tryz.prog 116 = some ⟨.func, 1, 8, some [.nilFunc], false, false, true⟩ := by kernel_rfl
theorem Tryzti117 : tiOf Tryz.prog 117 = some ⟨.func, 1, 8, some [.nilFunc], false, false, true⟩ := by kernel_rfl
theorem Tryzti118 : tiOf Tryz.prog 118 = some ⟨.slice 121, 1, 24, some [.slice none 0 0], false, false, true⟩ := by kernel_rfl
theorem Tryzti119 : tiOf Tryz.prog 119 = some ⟨.struct [(0, 3, false), (1, 118, false)], 2, 32, some [.int .i64 0, .slice none 0 0], false, false, false⟩ := by kernel_rfl
theorem Tryzti120 : tiOf Tryz.prog 120 = some ⟨.struct [(0, 3, false), (1, 118, false)], 2, 32, some [.int .i64 0, .slice none 0 0], false, false, false⟩ := by kernel_rfl
theorem Tryzti121 : tiOf Tryz.prog 121 = some ⟨.slice 3, 1, 24, some [.slice none 0 0], false, false, true⟩ := by kernel_rfl
theorem Tryzti122 : tiOf Tryz.prog 122 = some ⟨.func, 1, 8, some [.nilFunc], false, false, true⟩ := by kernel_rfl
theorem Tryzti124 : tiOf Tryz.prog 124 = some ⟨.func, 1, 8, some [.nilFunc], false, false, true⟩ := by kernel_rfl
theorem Tryzti125 : tiOf Tryz.prog 125 = some ⟨.func, 1, 8, some [.nilFunc], false, false, true⟩ := by kernel_rfl
theorem Tryzti126 : tiOf Tryz.prog 126 = some ⟨.func, 1, 8, some [.nilFunc], false, false, true⟩ := by kernel_rfl
theorem Tryzti127 : tiOf Tryz.prog 127 = some ⟨.func, 1, 8, some [.nilFunc], false, false, true⟩ := by kernel_rfl
theorem Tryzti128 : tiOf Tryz.prog 128 = some ⟨.func, 1, 8, some [.nilFunc], false, false, true⟩ := by kernel_rfl
theorem Tryzti129 : tiOf Tryz.prog 129 = some ⟨.func, 1, 8, some [.nilFunc], false, false, true⟩ := by kernel_rfl
theorem Tryzti130 : tiOf Tryz.prog 130 = some ⟨.func, 1, 8, some [.nilFunc], false, false, true⟩ := by kernel_rfl
theorem Tryzti131 : tiOf Tryz.prog 131 = some ⟨.func, 1, 8, some [.nilFunc], false, false, true⟩ := by kernel_rfl
theorem Tryzti132 : tiOf Tryz.prog 132 = some ⟨.func, 1, 8, some [.nilFunc], false, false, true⟩ := by kernel_rfl
theorem Tryzti133 : tiOf Tryz.prog 133 = some ⟨.func, 1, 8, some [.nilFunc], false, false, true⟩ := by kernel_rfl
theorem Tryzti134 : tiOf Tryz.prog 134 = some ⟨.func, 1, 8, some [.nilFunc], false, false, true⟩ := by kernel_rfl
theorem Tryzti135 : tiOf Tryz.prog 135 = some ⟨.struct [(0, 5, false), (1, 5, false)], 2, 2, some [.int .u8 0, .int .u8 0], false, false, false⟩ := by kernel_rfl
theorem Tryzti136 : tiOf Tryz.prog 136 = some ⟨.struct [(0, 5, false), (1, 5, false)], 2, 2, some [.int .u8 0, .int .u8 0], false, false, false⟩ := by kernel_rfl
theorem Tryzti137 : tiOf Tryz.prog 137 = some ⟨.int .u64, 1, 8, some [.int .u64 0], false, false, true⟩ := by kernel_rfl
theorem Tryzti138 : tiOf Tryz.prog 138 = some ⟨.func, 1, 8, some [.nilFunc], false, false, true⟩ := by kernel_rfl
theorem Tryzti139 : tiOf Tryz.prog 139 = some ⟨.func, 1, 8, some [.nilFunc], false, false, true⟩ := by kernel_rfl
theorem Tryzti140 : tiOf Tryz.prog 140 = some ⟨.func, 1, 8, some [.nilFunc], false, false, true⟩ := by kernel_rfl
theorem Tryzti141 : tiOf Tryz.prog 141 = some ⟨.func, 1, 8, some [.nilFunc], false, false, true⟩ := by kernel_rfl
theorem Tryzti142 : tiOf Tryz.prog 142 = some ⟨.func, 1, 8, some [.nilFunc], false, false, true⟩ := by kernel_rfl
theorem Tryzti143 : tiOf Tryz.prog 143 = some ⟨.func, 1, 8, some [.nilFunc], false, false, true⟩ := by kernel_rfl
theorem Tryzti144 : tiOf Tryz.prog 144 = some ⟨.func, 1, 8, some [.nilFunc], false, false, true⟩ := by kernel_rfl
theorem Tryzti146 : tiOf Tryz.prog 146 = some ⟨.func, 1, 8, some [.nilFunc], false, false, true⟩ := by kernel_rfl
theorem Tryzti147 : tiOf Tryz.prog 147 = some ⟨.func, 1, 8, some [.nilFunc], false, false, true⟩ := by kernel_rfl
theorem Tryzti148 : tiOf Tryz.prog 148 = some ⟨.func, 1, 8, some [.nilFunc], false, false, true⟩ := by kernel_rfl
theorem Tryzti150 : tiOf Tryz.prog 150 = some ⟨.func, 1, 8, some [.nilFunc], false, false, true⟩ := by kernel_rfl
theorem Tryzti152 : tiOf Tryz.prog 152 = some ⟨.func, 1, 8, some [.nilFunc], false, false, true⟩ := by kernel_rfl
theorem Tryzti153 : tiOf Tryz.prog 153 = some ⟨.func, 1, 8, some [.nilFunc], false, false, true⟩ := by kernel_rfl
theorem Tryzti154 : tiOf Tryz.prog 154 = some ⟨.struct [(0, 4, false), (1, 3, false), (2, 3, false), (3, 3, false)], 4, 32, some [.bool false, .int .i64 0, .int .i64 0, .int .i64 0], false, false, false⟩ := by kernel_rfl
theorem Tryzti155 : tiOf Tryz.prog 155 = some ⟨.struct [(0, 4, false), (1, 3, false), (2, 3, false), (3, 3, false)], 4, 32, some [.bool false, .int .i64 0, .int .i64 0, .int .i64 0], false, false, false⟩ := by kernel_rfl
theorem Tryzti156 : tiOf Tryz.prog 156 = some ⟨.func, 1, 8, some [.nilFunc], false, false, true⟩ := by kernel_rfl
theorem Tryzti157 : tiOf Tryz.prog 157 = some ⟨.func, 1, 8, some [.nilFunc], false, false, true⟩ := by kernel_rfl
theorem Tryzti158 : tiOf Tryz.prog 158 = some ⟨.func, 1, 8, some [.nilFunc], false, false, true⟩ := by kernel_rfl
theorem Tryzti159 : tiOf Tryz.prog 159 = some ⟨.int .u64, 1, 8, some [.int .u64 0], false, false, true⟩ := by kernel_rfl
theorem Tryzti160 : tiOf Tryz.prog 160 = some ⟨.func, 1, 8, some [.nilFunc], false, false, true⟩ := by kernel_rfl
theorem Tryzti161 : tiOf Tryz.prog 161 = some ⟨.struct [(0, 32, false)], 1, 24, some [.slice none 0 0], false, false, false⟩ := by kernel_rfl
theorem Tryzti162 : tiOf Tryz.prog 162 = some ⟨.struct [(0, 32, false)], 1, 24, some [.slice none 0 0], false, false, false⟩ := by kernel_rfl
theorem Tryzti163 : tiOf Tryz.prog 163 = some ⟨.func, 1, 8, some [.nilFunc], false, false, true⟩ := by kernel_rfl
theorem Tryzti164 : tiOf Tryz.prog 164 = some ⟨.func, 1, 8, some [.nilFunc], false, false, true⟩ := by kernel_rfl
theorem Tryzti165 : tiOf Tryz.prog 165 = some ⟨.func, 1, 8, some [.nilFunc], false, false, true⟩ := by kernel_rfl
theorem Tryzti166 : tiOf Tryz.prog 166 = some ⟨.func, 1, 8, some [.nilFunc], false, false, true⟩ := by kernel_rfl
theorem Tryzti167 : tiOf Tryz.prog 167 = some ⟨.func, 1, 8, some [.nilFunc], false, false, true⟩ := by kernel_rfl
theorem Tryzti168 : tiOf Tryz.prog 168 = some ⟨.func, 1, 8, some [.nilFunc], false, false, true⟩ := by kernel_rfl
theorem Tryzti169 : tiOf Tryz.prog 169 = some ⟨.func, 1, 8, some [.nilFunc], false, false, true⟩ := by kernel_rfl
theorem Tryzti170 : tiOf Tryz.prog 170 = some ⟨.func, 1, 8, some [.nilFunc], false, false, true⟩ := by kernel_rfl
theorem Tryzti171 : tiOf Tryz.prog 171 = some ⟨.func, 1, 8, some [.nilFunc], false, false, true⟩ := by kernel_rfl
theorem Tryzti172 : tiOf Tryz.prog 172 = some ⟨.func, 1, 8, some [.nilFunc], false, false, true⟩ := by kernel_rfl
theorem Tryzti173 : tiOf Tryz.prog 173 = some ⟨.slice 4, 1, 24, some [.slice none 0 0], false, false, true⟩ := by kernel_rfl
theorem Tryzti174 : tiOf Tryz.prog 174 = some ⟨.func, 1, 8, some [.nilFunc], false, false, true⟩ := by kernel_rfl
theorem Tryzti175 : tiOf Tryz.prog 175 = some ⟨.func, 1, 8, some [.nilFunc], false, false, true⟩ := by kernel_rfl
theorem Tryzti176 : tiOf Tryz.prog 176 = some ⟨.func, 1, 8, some [.nilFunc], false, false, true⟩ := by kernel_rfl
theorem Tryzti177 : tiOf Tryz.prog 177 = some ⟨.map 38 38, 1, 8, some [.map none], false, false, true⟩ := by kernel_rfl
theorem Tryzti178 : tiOf Tryz.prog 178 = some ⟨.func, 1, 8, some [.nilFunc], false, false, true⟩ := by kernel_rfl
theorem Tryzti179 : tiOf Tryz.prog 179 = some ⟨.func, 1, 8, some [.nilFunc], false, false, true⟩ := by kernel_rfl
theorem Tryzti180 : tiOf Tryz.prog 180 = some ⟨.func, 1, 8, some [.nilFunc], false, false, true⟩ := by kernel_rfl
theorem Tryzti182 : tiOf Tryz.prog 182 = some ⟨.func, 1, 8, some [.nilFunc], false, false, true⟩ := by kernel_rfl
theorem Tryzti183 : tiOf Tryz.prog 183 = some ⟨.func, 1, 8, some [.nilFunc], false, false, true⟩ := by kernel_rfl
theorem Tryzti184 : tiOf Tryz.prog 184 = some ⟨.func, 1, 8, some [.nilFunc], false, false, true⟩ := by kernel_rfl
theorem Tryzti185 : tiOf Tryz.prog 185 = some ⟨.func, 1, 8, some [.nilFunc], false, false, true⟩ := by kernel_rfl
theorem Tryzti186 : tiOf Tryz.prog 186 = some ⟨.func, 1, 8, some [.nilFunc], false, false, true⟩ := by kernel_rfl
theorem Tryzti187 : tiOf Tryz.prog 187 = some ⟨.func, 1, 8, some [.nilFunc], false, false, true⟩ := by kernel_rfl
theorem Tryzti188 : tiOf Tryz.prog 188 = some ⟨.func, 1, 8, some [.nilFunc], false, false, true⟩ := by kernel_rfl
theorem Tryzti189 : tiOf Tryz.prog 189 = some ⟨.func, 1, 8, some [.nilFunc], false, false, true⟩ := by kernel_rfl
theorem Tryzti190 : tiOf Tryz.prog 190 = some ⟨.func, 1, 8, some [.nilFunc], false, false, true⟩ := by kernel_rfl
theorem Tryzti191 : tiOf Tryz.prog 191 = some ⟨.int .i64, 1, 8, some [.int .i64 0], false, false, true⟩ := by kernel_rfl
theorem Tryzti193 : tiOf Tryz.prog 193 = some ⟨.func, 1, 8, some [.nilFunc], false, false, true⟩ := by kernel_rfl
theorem Tryzti194 : tiOf Tryz.prog 194 = some ⟨.func, 1, 8, some [.nilFunc], false, false, true⟩ := by kernel_rfl
theorem Tryzti195 : tiOf Tryz.prog 195 = some ⟨.func, 1, 8, some [.nilFunc], false, false, true⟩ := by kernel_rfl
theorem Tryzti196 : tiOf Tryz.prog 196 = some ⟨.func, 1, 8, some [.nilFunc], false, false, true⟩ := by kernel_rfl
theorem Tryzti197 : tiOf Tryz.prog 197 = some ⟨.func, 1, 8, some [.nilFunc], false, false, true⟩ := by kernel_rfl
theorem Tryzti198 : tiOf Tryz.prog 198 = some ⟨.func, 1, 8, some [.nilFunc], false, false, true⟩ := by kernel_rfl
theorem Tryzti199 : tiOf Tryz.prog 199 = some ⟨.func, 1, 8, some [.nilFunc], false, false, true⟩ := by kernel_rfl
theorem Tryzti200 : tiOf Tryz.prog 200 = some ⟨.func, 1, 8, some [.nilFunc], false, false, true⟩ := by kernel_rfl
theorem Tryzti201 : tiOf Tryz.prog 201 = some ⟨.func, 1, 8, some [.nilFunc], false, false, true⟩ := by kernel_rfl
theorem Tryzti203 : tiOf Tryz.prog 203 = some ⟨.func, 1, 8, some [.nilFunc], false, false, true⟩ := by kernel_rfl
theorem Tryzti204 : tiOf Tryz.prog 204 = some ⟨.func, 1, 8, some [.nilFunc], false, false, true⟩ := by kernel_rfl
theorem Tryzti205 : tiOf Tryz.prog 205 = some ⟨.func, 1, 8, some [.nilFunc], false, false, true⟩ := by kernel_rfl
theorem Tryzti206 : tiOf Tryz.prog 206 = some ⟨.func, 1, 8, some [.nilFunc], false, false, true⟩ := by kernel_rfl
theorem Tryzti207 : tiOf Tryz.prog 207 = some ⟨.func, 1, 8, some [.nilFunc], false, false, true⟩ := by kernel_rfl
theorem Tryzti208 : tiOf Tryz.prog 208 = some ⟨.func, 1, 8, some [.nilFunc], false, false, true⟩ := by kernel_rfl
theorem Tryzti209 : tiOf Tryz.prog 209 = some ⟨.func, 1, 8, some [.nilFunc], false, false, true⟩ := by kernel_rfl
theorem Tryzti210 : tiOf Tryz.prog 210 = some ⟨.func, 1, 8, some [.nilFunc], false, false, true⟩ := by kernel_rfl
theorem Tryzti211 : tiOf Tryz.prog 211 = some ⟨.pointer 162, 1, 8, some [.pointer none], false, false, true⟩ := by kernel_rfl
theorem Tryzti212 : tiOf Tryz.prog 212 = some ⟨.func, 1, 8, some [.nilFunc], false, false, true⟩ := by kernel_rfl
theorem Tryzti213 : tiOf Tryz.prog 213 = some ⟨.array 32 5, 32, 32, some [.int .u8 0, .int .u8 0, .int .u8 0, .int .u8 0, .int .u8 0, .int .u8 0, .int .u8 0, .int .u8 0, .int .u8 0, .int .u8 0, .int .u8 0, .int .u8 0, .int .u8 0, .int .u8 0, .int .u8 0, .int .u8 0, .int .u8 0, .int .u8 0, .int .u8 0, .int .u8 0, .int .u8 0, .int .u8 0, .int .u8 0, .int .u8 0, .int .u8 0, .int .u8 0, .int .u8 0, .int .u8 0, .int .u8 0, .int .u8 0, .int .u8 0, .int .u8 0], false, false, false⟩ := by kernel_rfl
theorem Tryzti214 : tiOf Tryz.prog 214 = some ⟨.int .u64, 1, 8, some [.int .u64 0], false, false, true⟩ := by kernel_rfl
theorem Tryzti215 : tiOf Tryz.prog 215 = some ⟨.func, 1, 8, some [.nilFunc], false, false, true⟩ := by kernel_rfl
theorem Tryzti216 : tiOf Tryz.prog 216 = some ⟨.func, 1, 8, some [.nilFunc], false, false, true⟩ := by kernel_rfl
theorem Tryzti217 : tiOf Tryz.prog 217 = some ⟨.func, 1, 8, some [.nilFunc], false, false, true⟩ := by kernel_rfl
theorem Tryzti218 : tiOf Tryz.prog 218 = some ⟨.pointer 3, 1, 8, some [.pointer none], false, false, true⟩ := by kernel_rfl
theorem Tryzti219 : tiOf Tryz.prog 219 = some ⟨.func, 1, 8, some [.nilFunc], false, false, true⟩ := by kernel_rfl
theorem Tryzti220 : tiOf Tryz.prog 220 = some ⟨.func, 1, 8, some [.nilFunc], false, false, true⟩ := by kernel_rfl
theorem Tryzti221 : tiOf Tryz.prog 221 = some ⟨.func, 1, 8, some [.nilFunc], false, false, true⟩ := by kernel_rfl
theorem Tryzti222 : tiOf Tryz.prog 222 = some ⟨.func, 1, 8, some [.nilFunc], false, false, true⟩ := by kernel_rfl
theorem Tryzti223 : tiOf Tryz.prog 223 = some ⟨.func, 1, 8, some [.nilFunc], false, false, true⟩ := by kernel_rfl
theorem Tryzti224 : tiOf Tryz.prog 224 = some ⟨.pointer 214, 1, 8, some [.pointer none], false, false, true⟩ := by kernel_rfl
theorem Tryzti226 : tiOf Tryz.prog 226 = some ⟨.func, 1, 8, some [.nilFunc], false, false, true⟩ := by kernel_rfl
theorem Tryzti227 : tiOf Tryz.prog 227 = some ⟨.func, 1, 8, some [.nilFunc], false, false, true⟩ := by kernel_rfl
theorem Tryzti228 : tiOf Tryz.prog 228 = some ⟨.slice 27, 1, 24, some [.slice none 0 0], false, false, true⟩ := by kernel_rfl
theorem Tryzti229 : tiOf Tryz.prog 229 = some ⟨.func, 1, 8, some [.nilFunc], false, false, true⟩ := by kernel_rfl
theorem Tryzti230 : tiOf Tryz.prog 230 = some ⟨.func, 1, 8, some [.nilFunc], false, false, true⟩ := by kernel_rfl
theorem Tryzti231 : tiOf Tryz.prog 231 = some ⟨.func, 1, 8, some [.nilFunc], false, false, true⟩ := by kernel_rfl
theorem Tryzti232 : tiOf Tryz.prog 232 = some ⟨.func, 1, 8, some [.nilFunc], false, false, true⟩ := by kernel_rfl
theorem Tryzti233 : tiOf Tryz.prog 233 = some ⟨.func, 1, 8, some [.nilFunc], false, false, true⟩ := by kernel_rfl
theorem Tryzti234 : tiOf Tryz.prog 234 = some ⟨.func, 1, 8, some [.nilFunc], false, false, true⟩ := by kernel_rfl
theorem Tryzti235 : tiOf Tryz.prog 235 = some ⟨.func, 1, 8, some [.nilFunc], false, false, true⟩ := by kernel_rfl
theorem Tryzti236 : tiOf Tryz.prog 236 = some ⟨.func, 1, 8, some [.nilFunc], false, false, true⟩ := by kernel_rfl
theorem Tryzti237 : tiOf Tryz.prog 237 = some ⟨.func, 1, 8, some [.nilFunc], false, false, true⟩ := by kernel_rfl
theorem Tryzti238 : tiOf Tryz.prog 238 = some ⟨.func, 1, 8, some [.nilFunc], false, false, true⟩ := by kernel_rfl
theorem Tryzti241 : tiOf Tryz.prog 241 = some ⟨.array 0 16, 0, 0, some [], false, false, false⟩ := by kernel_rfl
theorem Tryzti244 : tiOf Tryz.prog 244 = some ⟨.func, 1, 8, some [.nilFunc], false, false, true⟩ := by kernel_rfl
theorem Tryzti245 : tiOf Tryz.prog 245 = some ⟨.int .u8, 1, 1, some [.int .u8 0], false, false, true⟩ := by kernel_rfl
theorem Tryzti246 : tiOf Tryz.prog 246 = some ⟨.int .u8, 1, 1, some [.int .u8 0], false, false, true⟩ := by kernel_rfl
theorem Tryzti247 : tiOf Tryz.prog 247 = some ⟨.func, 1, 8, some [.nilFunc], false, false, true⟩ := by kernel_rfl
theorem Tryzti248 : tiOf Tryz.prog 248 = some ⟨.pointer 5, 1, 8, some [.pointer none], false, false, true⟩ := by kernel_rfl
theorem Tryzti249 : tiOf Tryz.prog 249 = some ⟨.int .i32, 1, 4, some [.int .i32 0], false, false, true⟩ := by kernel_rfl
theorem Tryzti250 : tiOf Tryz.prog 250 = some ⟨.int .i32, 1, 4, some [.int .i32 0], false, false, true⟩ := by kernel_rfl
theorem Tryzfits : fits Tryz.prog TryzTypes 0 := ⟨Tryzti1, ⟨Tryzti2, ⟨Tryzti3, ⟨Tryzti4, ⟨Tryzti5, ⟨Tryzti6, ⟨Tryzti7, ⟨Tryzti8, ⟨Tryzti9, ⟨Tryzti10, ⟨Tryzti11, ⟨Tryzti12, ⟨Tryzti15, ⟨Tryzti16, ⟨Tryzti17, ⟨Tryzti21, ⟨Tryzti22, ⟨Tryzti23, ⟨Tryzti24, ⟨Tryzti25, ⟨Tryzti26, ⟨Tryzti27, ⟨Tryzti28, ⟨Tryzti30, ⟨Tryzti31, ⟨Tryzti32, ⟨Tryzti33, ⟨Tryzti35, ⟨Tryzti36, ⟨Tryzti37, ⟨Tryzti38, ⟨Tryzti39, ⟨Tryzti40, ⟨Tryzti41, ⟨Tryzti42, ⟨Tryzti43, ⟨Tryzti44, ⟨Tryzti46, ⟨Tryzti47, ⟨Tryzti48, ⟨Tryzti49, ⟨Tryzti50, ⟨Tryzti51, ⟨Tryzti52, ⟨Tryzti53, ⟨Tryzti54, ⟨Tryzti55, ⟨Tryzti56, ⟨Tryzti58, ⟨Tryzti59, ⟨Tryzti60, ⟨Tryzti62, ⟨Tryzti63, ⟨Tryzti64, ⟨Tryzti65, ⟨Tryzti66, ⟨Tryzti68, ⟨Tryzti69, ⟨Tryzti70, ⟨Tryzti71, ⟨Tryzti72, ⟨Tryzti73, ⟨Tryzti74, ⟨Tryzti75, ⟨Tryzti76, ⟨Tryzti78, ⟨Tryzti80, ⟨Tryzti81, ⟨Tryzti83, ⟨Tryzti84, ⟨Tryzti85, ⟨Tryzti87, ⟨Tryzti89, ⟨Tryzti91, ⟨Tryzti92, ⟨Tryzti93, ⟨Tryzti94, ⟨Tryzti95, ⟨Tryzti96, ⟨Tryzti97, ⟨Tryzti98, ⟨Tryzti99, ⟨Tryzti100, ⟨Tryzti101, ⟨Tryzti102, ⟨Tryzti104, ⟨Tryzti105, ⟨Tryzti106, ⟨Tryzti107, ⟨Tryzti108, ⟨Tryzti109, ⟨Tryzti110, ⟨Tryzti111, ⟨Tryzti112, ⟨Tryzti113, ⟨Tryzti114, ⟨Tryzti116, ⟨Tryzti117, ⟨Tryzti118, ⟨Tryzti119, ⟨Tryzti120, ⟨Tryzti121, ⟨Tryzti122, ⟨Tryzti124, ⟨Tryzti125, ⟨Tryzti126, ⟨Tryzti127, ⟨Tryzti128, ⟨Tryzti129, ⟨Tryzti130, ⟨Tryzti131, ⟨Tryzti132, ⟨Tryzti133, ⟨Tryzti134, ⟨Tryzti135, ⟨Tryzti136, ⟨Tryzti137, ⟨Tryzti138, ⟨Tryzti139, ⟨Tryzti140, ⟨Tryzti141, ⟨Tryzti142, ⟨Tryzti143, ⟨Tryzti144, ⟨Tryzti146, ⟨Tryzti147, ⟨Tryzti148, ⟨Tryzti150, ⟨Tryzti152, ⟨Tryzti153, ⟨Tryzti154, ⟨Tryzti155, ⟨Tryzti156, ⟨Tryzti157, ⟨Tryzti158, ⟨Tryzti159, ⟨Tryzti160, ⟨Tryzti161, ⟨Tryzti162, ⟨Tryzti163, ⟨Tryzti164, ⟨Tryzti165, ⟨Tryzti166, ⟨Tryzti167, ⟨Tryzti168, ⟨Tryzti169, ⟨Tryzti170, ⟨Tryzti171, ⟨Tryzti172, ⟨Tryzti173, ⟨Tryzti174, ⟨Tryzti175, ⟨Tryzti176, ⟨Tryzti177, ⟨Tryzti178, ⟨Tryzti179, ⟨Tryzti180, ⟨Tryzti182, ⟨Tryzti183, ⟨Tryzti184, ⟨Tryzti185, ⟨Tryzti186, ⟨Tryzti187, ⟨Tryzti188, ⟨Tryzti189, ⟨Tryzti190, ⟨Tryzti191, ⟨Tryzti193, ⟨Tryzti194, ⟨Tryzti195, ⟨Tryzti196, ⟨Tryzti197, ⟨Tryzti198, ⟨Tryzti199, ⟨Tryzti200, ⟨Tryzti201, ⟨Tryzti203, ⟨Tryzti204, ⟨Tryzti205, ⟨Tryzti206, ⟨Tryzti207, ⟨Tryzti208, ⟨Tryzti209, ⟨Tryzti210, ⟨Tryzti211, ⟨Tryzti212, ⟨Tryzti213, ⟨Tryzti214, ⟨Tryzti215, ⟨Tryzti216, ⟨Tryzti217, ⟨Tryzti218, ⟨Tryzti219, ⟨Tryzti220, ⟨Tryzti221, ⟨Tryzti222, ⟨Tryzti223, ⟨Tryzti224, ⟨Tryzti226, ⟨Tryzti227, ⟨Tryzti228, ⟨Tryzti229, ⟨Tryzti230, ⟨Tryzti231, ⟨Tryzti232, ⟨Tryzti233, ⟨Tryzti234, ⟨Tryzti235, ⟨Tryzti236, ⟨Tryzti237, ⟨Tryzti238, ⟨Tryzti241, ⟨Tryzti244, ⟨Tryzti245, ⟨Tryzti246, ⟨Tryzti247, ⟨Tryzti248, ⟨Tryzti249, ⟨Tryzti250, trivial⟩⟩⟩⟩⟩⟩⟩⟩⟩⟩⟩⟩⟩⟩⟩⟩⟩⟩⟩⟩⟩⟩⟩⟩⟩⟩⟩⟩⟩⟩⟩⟩⟩⟩⟩⟩⟩⟩⟩⟩⟩⟩⟩⟩⟩⟩⟩⟩⟩⟩⟩⟩⟩⟩⟩⟩⟩⟩⟩⟩⟩⟩⟩⟩⟩⟩⟩⟩⟩⟩⟩⟩⟩⟩⟩⟩⟩⟩⟩⟩⟩⟩⟩⟩⟩⟩⟩⟩⟩⟩⟩⟩⟩⟩⟩⟩⟩⟩⟩⟩⟩⟩⟩⟩⟩⟩⟩⟩⟩⟩⟩⟩⟩⟩⟩⟩⟩⟩⟩⟩⟩⟩⟩⟩⟩⟩⟩⟩⟩⟩⟩⟩⟩⟩⟩⟩⟩⟩⟩⟩⟩⟩⟩⟩⟩⟩⟩⟩⟩⟩⟩⟩⟩⟩⟩⟩⟩⟩⟩⟩⟩⟩⟩⟩⟩⟩⟩⟩⟩⟩⟩⟩⟩⟩⟩⟩⟩⟩⟩⟩⟩⟩⟩⟩⟩⟩⟩⟩⟩⟩⟩⟩⟩⟩⟩⟩⟩⟩⟩⟩⟩⟩⟩⟩⟩⟩⟩⟩⟩⟩⟩⟩⟩⟩⟩⟩⟩⟩⟩
theorem Tryzok : EnvOk Tryz.prog TryzE := fun t i h => by
 have := fits_spec Tryzfits t i h
 rwa [Nat.zero_add] at this
theorem Tryzmixed : Tryz.prog.follows .mixedOrders = true := by kernel_rfl
end Go.Hx
namespace Go.Hx
open Go.Proofs
section
variable {ro : Option Nat} {P : Program} {E : Env} {nt : Nat} {ops : Array Oper} {i : Nat} {o : Oper} {st : HSt} {L : List Nat} {K : List Tr → HSt → Prop} {Q : Exit → HSt → Prop}
theorem qy {out : Out} {gb : Bool} (hT : Reg P E nt ops L (st.after o.dst (some out.val) []) fun T sf => K (⟨i, ann0 true out.val.ids, looks st.den o, oldIds st.den o.dst [], fineOf E st.den o⟩ :: T) sf)
 (hi : ops[i]? = some o := by exact rfl) (hw : wantedH ops st.den o = some gb := by exact rfl) (hd : dstOk nt o.dst = true := by exact rfl) (hq' : hq E true st.den.o (ev st.den) o.op = some out := by exact rfl) (hg : gb = true := by exact rfl)
 (hp : out.pre := by first | exact trivial | (simp only [arith, inR, loOf, hiOf]; omega) | exact byte64 _ _ | exact ⟨trivial, trivial⟩ | exact ⟨trivial, Nat.le_of_ble_eq_true rfl⟩ | (try dsimp only) <;> ((repeat' apply And.intro) <;> first | trivial | rfl | omega | (simp only [less, upTo]; omega) | assumption | exact Nat.le_of_ble_eq_true rfl)) :
 Reg P E nt ops (i :: L) st K := rg_quiet true hi hw hd hq' hg hp hT
theorem k9 {gb : Bool} (hg : gb = false) (hT : Reg P E nt ops L (st.after o.dst (some (.tup [])) []) fun T sf => K (⟨i, ann0 true [], looks st.den o, oldIds st.den o.dst [], none⟩ :: T) sf)
 (hi : ops[i]? = some o := by exact rfl) (hw : wantedH ops st.den o = some gb := by exact rfl) (hd : dstOk nt o.dst = true := by exact rfl) : Reg P E nt ops (i :: L) st K := rg_skip hi hw hd hg hT
theorem m9 (id : Nat) {nw : New} {gb : Bool} (hT : Reg P E nt ops L (st.after o.dst (some nw.val) [(id, some nw.ob)]) fun T sf => K (⟨i, ⟨id, false, true, .tup [], [id], [id], nw.val.ids ++ nw.ob.ids⟩, looks st.den o, oldIds st.den o.dst [(id, some nw.ob)], none⟩ :: T) sf)
 (hi : ops[i]? = some o := by exact rfl) (hw : wantedH ops st.den o = some gb := by exact rfl) (hd : dstOk nt o.dst = true := by exact rfl) (hq' : ha E (ev st.den) id o.op = some nw := by exact rfl) (hn : newB id st = true := by exact rfl) (hg : gb = true := by exact rfl)
 (hp : nw.pre := by first | exact trivial | (try dsimp only) <;> ((repeat' apply And.intro) <;> first | trivial | rfl | omega | assumption)) : Reg P E nt ops (i :: L) st K := rg_make id hi hw hd hq' hn hg hp hT
theorem s9 {u : Upd} {gb : Bool} (hT : Reg P E nt ops L (st.after o.dst none [(u.id, some u.ob)]) fun T sf => K (⟨i, ⟨0, false, true, .tup [], [u.id], [], u.ob.ids⟩, looks st.den o, oldIds st.den o.dst [(u.id, some u.ob)], fineOf E st.den o⟩ :: T) sf)
 (hi : ops[i]? = some o := by exact rfl) (hw : wantedH ops st.den o = some gb := by exact rfl) (hd : dstOk nt o.dst = true := by exact rfl) (hq' : hs E st.den.o (ev st.den) o.op = some u := by exact rfl) (hg : gb = true := by exact rfl)
 (hp : u.pre := by first | exact Nat.le_of_ble_eq_true rfl | (try dsimp only) <;> ((repeat' apply And.intro) <;> first | trivial | rfl | omega | (simp only [less, upTo]; omega) | assumption | exact Nat.le_of_ble_eq_true rfl)) : Reg P E nt ops (i :: L) st K := rg_store hi hw hd hq' hg hp hT
theorem f9 {rs : List ResultVar} {res : List PC} {p q : Prop} {l : List HC} {vs : List PC} (h1 : resV E st.den rs = some (p, l)) (h2 : viewCs st.den.o l = some (q, vs)) (hc : CoL vs res)
 (hp : p := by (repeat' apply And.intro) <;> first | trivial | exact Nat.le_of_ble_eq_true rfl | rfl) (hq : q := by (repeat' apply And.intro) <;> first | trivial | exact Nat.le_of_ble_eq_true rfl | rfl) : ResOk E st rs res := ⟨p, l, q, vs, h1, hp, h2, hq, hc⟩
theorem c9 {f : Option HR} {x : HR} (h : f = some x := by exact rfl) : ∃ y, f = some y ∧ CoR y x := ⟨x, h, CoR.refl x⟩
theorem u9 {f : Option HObj} {x : HObj} (h : f = some x := by exact rfl) : ∃ y, f = some y ∧ CoO y x := ⟨x, h, CoO.refl x⟩
theorem zy {f : Option HR} {x y : HR} (h : f = some y := by exact rfl) (c : CoR y x := by first | exact CoR.refl _ | exact coi (by omega) | exact cob (by simp_all)) : ∃ y, f = some y ∧ CoR y x := ⟨y, h, c⟩
theorem l9 {a b : Nat} (h : Nat.ble a b = true := by exact rfl) : a ≤ b := Nat.le_of_ble_eq_true h
theorem ty {n : Nat} : ((n : Nat) : Int).toNat = n := Int.toNat_natCast n
end
theorem gy {ro : Option Nat} {nt id : Nat} {ops : Array Oper} {st : HSt} {Q : Exit → HSt → Prop} (h : Reg Tryz.prog TryzE nt ops (List.range ops.size) st fun _ sf => Q .normal sf) : HW (ro := ro) Tryz.prog nt (.region id ops false) st Q := hw_region Tryzok h
end Go.Hx
end
