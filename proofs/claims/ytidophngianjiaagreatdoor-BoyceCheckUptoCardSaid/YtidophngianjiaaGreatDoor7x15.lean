/- A part of the proof: HxEnv. -/
import Derived.Test.YtidophngianjiaaGreatDoorProg
import Derived.Test.YtidophngianjiaaGreatDoor7x14
set_option linter.all false
section
namespace Go.Hx
open Go.Proofs
def a64 : List (Option TI) := [
 none,
 some ⟨.func, 1, 8, some [.nilFunc], false, false, true⟩,
 some ⟨.int .i64, 1, 8, some [.int .i64 0], false, false, true⟩,
 some ⟨.int .i64, 1, 8, some [.int .i64 0], false, false, true⟩,
 some ⟨.bool, 1, 1, some [.bool false], false, false, true⟩,
 some ⟨.int .u8, 1, 1, some [.int .u8 0], false, false, true⟩,
 some ⟨.int .u8, 1, 1, some [.int .u8 0], false, false, true⟩,
 some ⟨.struct [(0, 2, false), (1, 3, false), (2, 4, false), (3, 6, false)], 4, 24, some [.int .i64 0, .int .i64 0, .bool false, .int .u8 0], false, false, false⟩,
 some ⟨.struct [(0, 2, false), (1, 3, false), (2, 4, false), (3, 6, false)], 4, 24, some [.int .i64 0, .int .i64 0, .bool false, .int .u8 0], false, false, false⟩,
 some ⟨.string, 1, 16, some [.string ⟨#[]⟩], false, false, true⟩,
 some ⟨.string, 1, 16, some [.string ⟨#[]⟩], false, false, true⟩,
 some ⟨.string, 1, 16, some [.string ⟨#[]⟩], false, false, true⟩,
 some ⟨.int .u64, 1, 8, some [.int .u64 0], false, false, true⟩,
 none,
 none,
 some ⟨.pointer 240, 1, 8, some [.pointer none], false, false, true⟩,
 some ⟨.pointer 243, 1, 8, some [.pointer none], false, false, true⟩,
 some ⟨.pointer 252, 1, 8, some [.pointer none], false, false, true⟩,
 none,
 none,
 none,
 some ⟨.int .i32, 1, 4, some [.int .i32 0], false, false, true⟩,
 some ⟨.slice 136, 1, 24, some [.slice none 0 0], false, false, true⟩,
 some ⟨.struct [(0, 5, false), (1, 22, false)], 2, 32, some [.int .u8 0, .slice none 0 0], false, false, false⟩,
 some ⟨.struct [(0, 5, false), (1, 22, false)], 2, 32, some [.int .u8 0, .slice none 0 0], false, false, false⟩,
 some ⟨.struct [(0, 24, false), (2, 22, false)], 3, 56, some [.int .u8 0, .slice none 0 0, .slice none 0 0], false, false, false⟩,
 some ⟨.struct [(0, 24, false), (2, 22, false)], 3, 56, some [.int .u8 0, .slice none 0 0, .slice none 0 0], false, false, false⟩,
 some ⟨.slice 40, 1, 24, some [.slice none 0 0], false, false, true⟩,
 some ⟨.slice 42, 1, 24, some [.slice none 0 0], false, false, true⟩,
 none,
 some ⟨.func, 1, 8, some [.nilFunc], false, false, true⟩,
 some ⟨.func, 1, 8, some [.nilFunc], false, false, true⟩,
 some ⟨.slice 38, 1, 24, some [.slice none 0 0], false, false, true⟩,
 some ⟨.int .i64, 1, 8, some [.int .i64 0], false, false, true⟩,
 none,
 some ⟨.func, 1, 8, some [.nilFunc], false, false, true⟩,
 some ⟨.func, 1, 8, some [.nilFunc], false, false, true⟩,
 some ⟨.int .u32, 1, 4, some [.int .u32 0], false, false, true⟩,
 some ⟨.int .u32, 1, 4, some [.int .u32 0], false, false, true⟩,
 some ⟨.struct [(0, 38, false), (1, 38, false)], 2, 8, some [.int .u32 0, .int .u32 0], false, false, false⟩,
 some ⟨.struct [(0, 38, false), (1, 38, false)], 2, 8, some [.int .u32 0, .int .u32 0], false, false, false⟩,
 some ⟨.func, 1, 8, some [.nilFunc], false, false, true⟩,
 some ⟨.struct [(0, 38, false), (1, 38, false)], 2, 8, some [.int .u32 0, .int .u32 0], false, false, false⟩,
 some ⟨.func, 1, 8, some [.nilFunc], false, false, true⟩,
 some ⟨.func, 1, 8, some [.nilFunc], false, false, true⟩,
 none,
 some ⟨.func, 1, 8, some [.nilFunc], false, false, true⟩,
 some ⟨.func, 1, 8, some [.nilFunc], false, false, true⟩,
 some ⟨.func, 1, 8, some [.nilFunc], false, false, true⟩,
 some ⟨.slice 5, 1, 24, some [.slice none 0 0], false, false, true⟩,
 some ⟨.func, 1, 8, some [.nilFunc], false, false, true⟩,
 some ⟨.func, 1, 8, some [.nilFunc], false, false, true⟩,
 some ⟨.func, 1, 8, some [.nilFunc], false, false, true⟩,
 some ⟨.func, 1, 8, some [.nilFunc], false, false, true⟩,
 some ⟨.array 2 38, 2, 8, some [.int .u32 0, .int .u32 0], false, false, false⟩,
 some ⟨.func, 1, 8, some [.nilFunc], false, false, true⟩,
 some ⟨.func, 1, 8, some [.nilFunc], false, false, true⟩,
 none,
 some ⟨.func, 1, 8, some [.nilFunc], false, false, true⟩,
 some ⟨.func, 1, 8, some [.nilFunc], false, false, true⟩,
 some ⟨.func, 1, 8, some [.nilFunc], false, false, true⟩,
 none,
 some ⟨.func, 1, 8, some [.nilFunc], false, false, true⟩,
 some ⟨.func, 1, 8, some [.nilFunc], false, false, true⟩,
 some ⟨.func, 1, 8, some [.nilFunc], false, false, true⟩,
 some ⟨.func, 1, 8, some [.nilFunc], false, false, true⟩,
 some ⟨.func, 1, 8, some [.nilFunc], false, false, true⟩,
 none,
 some ⟨.func, 1, 8, some [.nilFunc], false, false, true⟩,
 some ⟨.func, 1, 8, some [.nilFunc], false, false, true⟩,
 some ⟨.func, 1, 8, some [.nilFunc], false, false, true⟩,
 some ⟨.func, 1, 8, some [.nilFunc], false, false, true⟩,
 some ⟨.func, 1, 8, some [.nilFunc], false, false, true⟩,
 some ⟨.func, 1, 8, some [.nilFunc], false, false, true⟩,
 some ⟨.func, 1, 8, some [.nilFunc], false, false, true⟩,
 some ⟨.func, 1, 8, some [.nilFunc], false, false, true⟩,
 some ⟨.slice 155, 1, 24, some [.slice none 0 0], false, false, true⟩,
 none,
 some ⟨.func, 1, 8, some [.nilFunc], false, false, true⟩,
 none,
 some ⟨.func, 1, 8, some [.nilFunc], false, false, true⟩,
 some ⟨.func, 1, 8, some [.nilFunc], false, false, true⟩,
 none,
 some ⟨.func, 1, 8, some [.nilFunc], false, false, true⟩,
 some ⟨.func, 1, 8, some [.nilFunc], false, false, true⟩,
 some ⟨.func, 1, 8, some [.nilFunc], false, false, true⟩,
 none,
 some ⟨.func, 1, 8, some [.nilFunc], false, false, true⟩,
 none,
 some ⟨.func, 1, 8, some [.nilFunc], false, false, true⟩,
 none,
 some ⟨.func, 1, 8, some [.nilFunc], false, false, true⟩,
 some ⟨.func, 1, 8, some [.nilFunc], false, false, true⟩,
 some ⟨.func, 1, 8, some [.nilFunc], false, false, true⟩,
 some ⟨.func, 1, 8, some [.nilFunc], false, false, true⟩,
 some ⟨.func, 1, 8, some [.nilFunc], false, false, true⟩,
 some ⟨.func, 1, 8, some [.nilFunc], false, false, true⟩,
 some ⟨.func, 1, 8, some [.nilFunc], false, false, true⟩,
 some ⟨.func, 1, 8, some [.nilFunc], false, false, true⟩,
 some ⟨.func, 1, 8, some [.nilFunc], false, false, true⟩,
 some ⟨.func, 1, 8, some [.nilFunc], false, false, true⟩,
 some ⟨.func, 1, 8, some [.nilFunc], false, false, true⟩,
 some ⟨.func, 1, 8, some [.nilFunc], false, false, true⟩,
 none,
 some ⟨.func, 1, 8, some [.nilFunc], false, false, true⟩,
 some ⟨.func, 1, 8, some [.nilFunc], false, false, true⟩,
 some ⟨.func, 1, 8, some [.nilFunc], false, false, true⟩,
 some ⟨.func, 1, 8, some [.nilFunc], false, false, true⟩,
 some ⟨.func, 1, 8, some [.nilFunc], false, false, true⟩,
 some ⟨.func, 1, 8, some [.nilFunc], false, false, true⟩,
 some ⟨.func, 1, 8, some [.nilFunc], false, false, true⟩,
 some ⟨.func, 1, 8, some [.nilFunc], false, false, true⟩,
 some ⟨.func, 1, 8, some [.nilFunc], false, false, true⟩,
 some ⟨.func, 1, 8, some [.nilFunc], false, false, true⟩,
 some ⟨.slice 120, 1, 24, some [.slice none 0 0], false, false, true⟩,
 none,
 some ⟨.func, 1, 8, some [.nilFunc], false, false, true⟩,
 some ⟨.func, 1, 8, some [.nilFunc], false, false, true⟩,
 some ⟨.slice 121, 1, 24, some [.slice none 0 0], false, false, true⟩,
 some ⟨.struct [(0, 3, false), (1, 118, false)], 2, 32, some [.int .i64 0, .slice none 0 0], false, false, false⟩,
 some ⟨.struct [(0, 3, false), (1, 118, false)], 2, 32, some [.int .i64 0, .slice none 0 0], false, false, false⟩,
 some ⟨.slice 3, 1, 24, some [.slice none 0 0], false, false, true⟩,
 some ⟨.func, 1, 8, some [.nilFunc], false, false, true⟩,
 none,
 some ⟨.func, 1, 8, some [.nilFunc], false, false, true⟩,
 some ⟨.func, 1, 8, some [.nilFunc], false, false, true⟩,
 some ⟨.func, 1, 8, some [.nilFunc], false, false, true⟩,
 some ⟨.func, 1, 8, some [.nilFunc], false, false, true⟩,
 some ⟨.func, 1, 8, some [.nilFunc], false, false, true⟩,
 some ⟨.func, 1, 8, some [.nilFunc], false, false, true⟩,
 some ⟨.func, 1, 8, some [.nilFunc], false, false, true⟩,
 some ⟨.func, 1, 8, some [.nilFunc], false, false, true⟩,
 some ⟨.func, 1, 8, some [.nilFunc], false, false, true⟩,
 some ⟨.func, 1, 8, some [.nilFunc], false, false, true⟩,
 some ⟨.func, 1, 8, some [.nilFunc], false, false, true⟩,
 some ⟨.struct [(0, 5, false), (1, 5, false)], 2, 2, some [.int .u8 0, .int .u8 0], false, false, false⟩,
 some ⟨.struct [(0, 5, false), (1, 5, false)], 2, 2, some [.int .u8 0, .int .u8 0], false, false, false⟩,
 some ⟨.int .u64, 1, 8, some [.int .u64 0], false, false, true⟩,
 some ⟨.func, 1, 8, some [.nilFunc], false, false, true⟩,
 some ⟨.func, 1, 8, some [.nilFunc], false, false, true⟩,
 some ⟨.func, 1, 8, some [.nilFunc], false, false, true⟩,
 some ⟨.func, 1, 8, some [.nilFunc], false, false, true⟩,
 some ⟨.func, 1, 8, some [.nilFunc], false, false, true⟩,
 some ⟨.func, 1, 8, some [.nilFunc], false, false, true⟩,
 some ⟨.func, 1, 8, some [.nilFunc], false, false, true⟩,
 none,
 some ⟨.func, 1, 8, some [.nilFunc], false, false, true⟩,
 some ⟨.func, 1, 8, some [.nilFunc], false, false, true⟩,
 some ⟨.func, 1, 8, some [.nilFunc], false, false, true⟩,
 none,
 some ⟨.func, 1, 8, some [.nilFunc], false, false, true⟩,
 none,
 some ⟨.func, 1, 8, some [.nilFunc], false, false, true⟩,
 some ⟨.func, 1, 8, some [.nilFunc], false, false, true⟩,
 some ⟨.struct [(0, 4, false), (1, 3, false), (2, 3, false), (3, 3, false)], 4, 32, some [.bool false, .int .i64 0, .int .i64 0, .int .i64 0], false, false, false⟩,
 some ⟨.struct [(0, 4, false), (1, 3, false), (2, 3, false), (3, 3, false)], 4, 32, some [.bool false, .int .i64 0, .int .i64 0, .int .i64 0], false, false, false⟩,
 some ⟨.func, 1, 8, some [.nilFunc], false, false, true⟩,
 some ⟨.func, 1, 8, some [.nilFunc], false, false, true⟩,
 some ⟨.func, 1, 8, some [.nilFunc], false, false, true⟩,
 some ⟨.int .u64, 1, 8, some [.int .u64 0], false, false, true⟩,
 some ⟨.func, 1, 8, some [.nilFunc], false, false, true⟩,
 some ⟨.struct [(0, 32, false)], 1, 24, some [.slice none 0 0], false, false, false⟩,
 some ⟨.struct [(0, 32, false)], 1, 24, some [.slice none 0 0], false, false, false⟩,
 some ⟨.func, 1, 8, some [.nilFunc], false, false, true⟩,
 some ⟨.func, 1, 8, some [.nilFunc], false, false, true⟩,
 some ⟨.func, 1, 8, some [.nilFunc], false, false, true⟩,
 some ⟨.func, 1, 8, some [.nilFunc], false, false, true⟩,
 some ⟨.func, 1, 8, some [.nilFunc], false, false, true⟩,
 some ⟨.func, 1, 8, some [.nilFunc], false, false, true⟩,
 some ⟨.func, 1, 8, some [.nilFunc], false, false, true⟩,
 some ⟨.func, 1, 8, some [.nilFunc], false, false, true⟩,
 some ⟨.func, 1, 8, some [.nilFunc], false, false, true⟩,
 some ⟨.func, 1, 8, some [.nilFunc], false, false, true⟩,
 some ⟨.slice 4, 1, 24, some [.slice none 0 0], false, false, true⟩,
 some ⟨.func, 1, 8, some [.nilFunc], false, false, true⟩,
 some ⟨.func, 1, 8, some [.nilFunc], false, false, true⟩,
 some ⟨.func, 1, 8, some [.nilFunc], false, false, true⟩,
 some ⟨.map 38 38, 1, 8, some [.map none], false, false, true⟩,
 some ⟨.func, 1, 8, some [.nilFunc], false, false, true⟩,
 some ⟨.func, 1, 8, some [.nilFunc], false, false, true⟩,
 some ⟨.func, 1, 8, some [.nilFunc], false, false, true⟩,
 none,
 some ⟨.func, 1, 8, some [.nilFunc], false, false, true⟩,
 some ⟨.func, 1, 8, some [.nilFunc], false, false, true⟩,
 some ⟨.func, 1, 8, some [.nilFunc], false, false, true⟩,
 some ⟨.func, 1, 8, some [.nilFunc], false, false, true⟩,
 some ⟨.func, 1, 8, some [.nilFunc], false, false, true⟩,
 some ⟨.func, 1, 8, some [.nilFunc], false, false, true⟩,
 some ⟨.func, 1, 8, some [.nilFunc], false, false, true⟩,
 some ⟨.func, 1, 8, some [.nilFunc], false, false, true⟩,
 some ⟨.func, 1, 8, some [.nilFunc], false, false, true⟩,
 some ⟨.int .i64, 1, 8, some [.int .i64 0], false, false, true⟩,
 none,
 some ⟨.func, 1, 8, some [.nilFunc], false, false, true⟩,
 some ⟨.func, 1, 8, some [.nilFunc], false, false, true⟩,
 some ⟨.func, 1, 8, some [.nilFunc], false, false, true⟩,
 some ⟨.func, 1, 8, some [.nilFunc], false, false, true⟩,
 some ⟨.func, 1, 8, some [.nilFunc], false, false, true⟩,
 some ⟨.func, 1, 8, some [.nilFunc], false, false, true⟩,
 some ⟨.func, 1, 8, some [.nilFunc], false, false, true⟩,
 some ⟨.func, 1, 8, some [.nilFunc], false, false, true⟩,
 some ⟨.func, 1, 8, some [.nilFunc], false, false, true⟩,
 none,
 some ⟨.func, 1, 8, some [.nilFunc], false, false, true⟩,
 some ⟨.func, 1, 8, some [.nilFunc], false, false, true⟩,
 some ⟨.func, 1, 8, some [.nilFunc], false, false, true⟩,
 some ⟨.func, 1, 8, some [.nilFunc], false, false, true⟩,
 some ⟨.func, 1, 8, some [.nilFunc], false, false, true⟩,
 some ⟨.func, 1, 8, some [.nilFunc], false, false, true⟩,
 some ⟨.func, 1, 8, some [.nilFunc], false, false, true⟩,
 some ⟨.func, 1, 8, some [.nilFunc], false, false, true⟩,
 some ⟨.pointer 162, 1, 8, some [.pointer none], false, false, true⟩,
 some ⟨.func, 1, 8, some [.nilFunc], false, false, true⟩,
 some ⟨.array 32 5, 32, 32, some [.int .u8 0, .int .u8 0, .int .u8 0, .int .u8 0, .int .u8 0, .int .u8 0, .int .u8 0, .int .u8 0, .int .u8 0, .int .u8 0, .int .u8 0, .int .u8 0, .int .u8 0, .int .u8 0, .int .u8 0, .int .u8 0, .int .u8 0, .int .u8 0, .int .u8 0, .int .u8 0, .int .u8 0, .int .u8 0, .int .u8 0, .int .u8 0, .int .u8 0, .int .u8 0, .int .u8 0, .int .u8 0, .int .u8 0, .int .u8 0, .int .u8 0, .int .u8 0], false, false, false⟩,
 some ⟨.int .u64, 1, 8, some [.int .u64 0], false, false, true⟩,
 some ⟨.func, 1, 8, some [.nilFunc], false, false, true⟩,
 some ⟨.func, 1, 8, some [.nilFunc], false, false, true⟩,
 some ⟨.func, 1, 8, some [.nilFunc], false, false, true⟩,
 some ⟨.pointer 3, 1, 8, some [.pointer none], false, false, true⟩,
 some ⟨.func, 1, 8, some [.nilFunc], false, false, true⟩,
 some ⟨.func, 1, 8, some [.nilFunc], false, false, true⟩,
 some ⟨.func, 1, 8, some [.nilFunc], false, false, true⟩,
 some ⟨.func, 1, 8, some [.nilFunc], false, false, true⟩,
 some ⟨.func, 1, 8, some [.nilFunc], false, false, true⟩,
 some ⟨.pointer 214, 1, 8, some [.pointer none], false, false, true⟩,
 none,
 some ⟨.func, 1, 8, some [.nilFunc], false, false, true⟩,
 some ⟨.func, 1, 8, some [.nilFunc], false, false, true⟩,
 some ⟨.slice 27, 1, 24, some [.slice none 0 0], false, false, true⟩,
 some ⟨.func, 1, 8, some [.nilFunc], false, false, true⟩,
 some ⟨.func, 1, 8, some [.nilFunc], false, false, true⟩,
 some ⟨.func, 1, 8, some [.nilFunc], false, false, true⟩,
 some ⟨.func, 1, 8, some [.nilFunc], false, false, true⟩,
 some ⟨.func, 1, 8, some [.nilFunc], false, false, true⟩,
 some ⟨.func, 1, 8, some [.nilFunc], false, false, true⟩,
 some ⟨.func, 1, 8, some [.nilFunc], false, false, true⟩,
 some ⟨.func, 1, 8, some [.nilFunc], false, false, true⟩,
 some ⟨.func, 1, 8, some [.nilFunc], false, false, true⟩,
 some ⟨.func, 1, 8, some [.nilFunc], false, false, true⟩,
 none,
 none,
 some ⟨.array 0 16, 0, 0, some [], false, false, false⟩,
 none,
 none,
 some ⟨.func, 1, 8, some [.nilFunc], false, false, true⟩,
 some ⟨.int .u8, 1, 1, some [.int .u8 0], false, false, true⟩,
 some ⟨.int .u8, 1, 1, some [.int .u8 0], false, false, true⟩,
 some ⟨.func, 1, 8, some [.nilFunc], false, false, true⟩,
 some ⟨.pointer 5, 1, 8, some [.pointer none], false, false, true⟩,
 some ⟨.int .i32, 1, 4, some [.int .i32 0], false, false, true⟩,
 some ⟨.int .i32, 1, 4, some [.int .i32 0], false, false, true⟩,
 none,
 none,
 none]
def a0b : List (Option TI) → Nat → Option TI
 | [], _ => none
 | x :: _, 0 => x
 | _ :: r, n + 1 => a0b r n
def b6 : Env := a0b a64
def ae7 (P : Program) : List (Option TI) → Nat → Prop
 | [], _ => True
 | none :: r, n => ae7 P r (n + 1)
 | some i :: r, n => ah P n = some i ∧ ae7 P r (n + 1)
theorem xg {P : Program} : ∀ {l : List (Option TI)} {n : Nat}, ae7 P l n → ∀ t i, a0b l t = some i → ah P (n + t) = some i
 | [], _, _, t, i, h => by simp [a0b] at h
 | none :: r, n, hf, 0, i, h => by simp [a0b] at h
 | some x :: r, n, hf, 0, i, h => by simp only [a0b, Option.some.injEq] at h; subst h; exact hf.1
 | none :: r, n, hf, t + 1, i, h => by have := xg (l := r) (n := n + 1) hf t i h; rwa [show n + (t + 1) = n + 1 + t by omega]
 | some x :: r, n, hf, t + 1, i, h => by have := xg (l := r) (n := n + 1) hf.2 t i h; rwa [show n + (t + 1) = n + 1 + t by omega]
theorem atm : ah Tryz.prog 1 = some ⟨.func, 1, 8, some [.nilFunc], false, false, true⟩ := by kernel_rfl
theorem asv : ah Tryz.prog 2 = some ⟨.int .i64, 1, 8, some [.int .i64 0], false, false, true⟩ := by kernel_rfl
theorem atb : ah Tryz.prog 3 = some ⟨.int .i64, 1, 8, some [.int .i64 0], false, false, true⟩ := by kernel_rfl
theorem au0 : ah Tryz.prog 4 = some ⟨.bool, 1, 1, some [.bool false], false, false, true⟩ := by kernel_rfl
theorem avg : ah Tryz.prog 5 = some ⟨.int .u8, 1, 1, some [.int .u8 0], false, false, true⟩ := by kernel_rfl
theorem av3 : ah Tryz.prog 6 = some ⟨.int .u8, 1, 1, some [.int .u8 0], false, false, true⟩ := by kernel_rfl
theorem avq : ah Tryz.prog 7 = some ⟨.struct [(0, 2, false), (1, 3, false), (2, 4, false), (3, 6, false)], 4, 24, some [.int .i64 0, .int .i64 0, .bool false, .int .u8 0], false, false, false⟩ := by kernel_rfl
theorem atw : ah Tryz.prog 8 = some ⟨.struct [(0, 2, false), (1, 3, false), (2, 4, false), (3, 6, false)], 4, 24, some [.int .i64 0, .int .i64 0, .bool false, .int .u8 0], false, false, false⟩ := by kernel_rfl
theorem atx : ah Tryz.prog 9 = some ⟨.string, 1, 16, some [.string ⟨#[]⟩], false, false, true⟩ := by kernel_rfl
theorem an3 : ah Tryz.prog 10 = some ⟨.string, 1, 16, some [.string ⟨#[]⟩], false, false, true⟩ := by kernel_rfl
theorem apo : ah Tryz.prog 11 = some ⟨.string, 1, 16, some [.string ⟨#[]⟩], false, false, true⟩ := by kernel_rfl
theorem anw : ah Tryz.prog 12 = some ⟨.int .u64, 1, 8, some [.int .u64 0], false, false, true⟩ := by kernel_rfl
theorem aq7 : ah Tryz.prog 15 = some ⟨.pointer 240, 1, 8, some [.pointer none], false, false, true⟩ := by kernel_rfl
theorem ap1 : ah Tryz.prog 16 = some ⟨.pointer 243, 1, 8, some [.pointer none], false, false, true⟩ := by kernel_rfl
theorem amz : ah Tryz.prog 17 = some ⟨.pointer 252, 1, 8, some [.pointer none], false, false, true⟩ := by kernel_rfl
theorem anr : ah Tryz.prog 21 = some ⟨.int .i32, 1, 4, some [.int .i32 0], false, false, true⟩ := by kernel_rfl
theorem apb : ah Tryz.prog 22 = some ⟨.slice 136, 1, 24, some [.slice none 0 0], false, false, true⟩ := by kernel_rfl
theorem ame : ah Tryz.prog 23 = some ⟨.struct [(0, 5, false), (1, 22, false)], 2, 32, some [.int .u8 0, .slice none 0 0], false, false, false⟩ := by kernel_rfl
theorem an5 : ah Tryz.prog 24 = some ⟨.struct [(0, 5, false), (1, 22, false)], 2, 32, some [.int .u8 0, .slice none 0 0], false, false, false⟩ := by kernel_rfl
theorem aok : ah Tryz.prog 25 = some ⟨.struct [(0, 24, false), (2, 22, false)], 3, 56, some [.int .u8 0, .slice none 0 0, .slice none 0 0], false, false, false⟩ := by kernel_rfl
theorem apk : ah Tryz.prog 26 = some ⟨.struct [(0, 24, false), (2, 22, false)], 3, 56, some [.int .u8 0, .slice none 0 0, .slice none 0 0], false, false, false⟩ := by kernel_rfl
theorem aon : ah Tryz.prog 27 = some ⟨.slice 40, 1, 24, some [.slice none 0 0], false, false, true⟩ := by kernel_rfl
theorem apf : ah Tryz.prog 28 = some ⟨.slice 42, 1, 24, some [.slice none 0 0], false, false, true⟩ := by kernel_rfl
theorem anq : ah Tryz.prog 30 = some ⟨.func, 1, 8, some [.nilFunc], false, false, true⟩ := by kernel_rfl
theorem aod : ah Tryz.prog 31 = some ⟨.func, 1, 8, some [.nilFunc], false, false, true⟩ := by kernel_rfl
theorem aqt : ah Tryz.prog 32 = some ⟨.slice 38, 1, 24, some [.slice none 0 0], false, false, true⟩ := by kernel_rfl
theorem aog : ah Tryz.prog 33 = some ⟨.int .i64, 1, 8, some [.int .i64 0], false, false, true⟩ := by kernel_rfl
theorem aqx : ah Tryz.prog 35 = some ⟨.func, 1, 8, some [.nilFunc], false, false, true⟩ := by kernel_rfl
theorem apy : ah Tryz.prog 36 = some ⟨.func, 1, 8, some [.nilFunc], false, false, true⟩ := by kernel_rfl
theorem aps : ah Tryz.prog 37 = some ⟨.int .u32, 1, 4, some [.int .u32 0], false, false, true⟩ := by kernel_rfl
theorem anh : ah Tryz.prog 38 = some ⟨.int .u32, 1, 4, some [.int .u32 0], false, false, true⟩ := by kernel_rfl
theorem aox : ah Tryz.prog 39 = some ⟨.struct [(0, 38, false), (1, 38, false)], 2, 8, some [.int .u32 0, .int .u32 0], false, false, false⟩ := by kernel_rfl
theorem amj : ah Tryz.prog 40 = some ⟨.struct [(0, 38, false), (1, 38, false)], 2, 8, some [.int .u32 0, .int .u32 0], false, false, false⟩ := by kernel_rfl
theorem anm : ah Tryz.prog 41 = some ⟨.func, 1, 8, some [.nilFunc], false, false, true⟩ := by kernel_rfl
theorem amb : ah Tryz.prog 42 = some ⟨.struct [(0, 38, false), (1, 38, false)], 2, 8, some [.int .u32 0, .int .u32 0], false, false, false⟩ := by kernel_rfl
theorem ap5 : ah Tryz.prog 43 = some ⟨.func, 1, 8, some [.nilFunc], false, false, true⟩ := by kernel_rfl
theorem aqh : ah Tryz.prog 44 = some ⟨.func, 1, 8, some [.nilFunc], false, false, true⟩ := by kernel_rfl
theorem ano : ah Tryz.prog 46 = some ⟨.func, 1, 8, some [.nilFunc], false, false, true⟩ := by kernel_rfl
theorem aoy : ah Tryz.prog 47 = some ⟨.func, 1, 8, some [.nilFunc], false, false, true⟩ := by kernel_rfl
theorem aqy : ah Tryz.prog 48 = some ⟨.func, 1, 8, some [.nilFunc], false, false, true⟩ := by kernel_rfl
theorem aq0 : ah Tryz.prog 49 = some ⟨.slice 5, 1, 24, some [.slice none 0 0], false, false, true⟩ := by kernel_rfl
theorem amv : ah Tryz.prog 50 = some ⟨.func, 1, 8, some [.nilFunc], false, false, true⟩ := by kernel_rfl
theorem aq3 : ah Tryz.prog 51 = some ⟨.func, 1, 8, some [.nilFunc], false, false, true⟩ := by kernel_rfl
theorem aop : ah Tryz.prog 52 = some ⟨.func, 1, 8, some [.nilFunc], false, false, true⟩ := by kernel_rfl
theorem apg : ah Tryz.prog 53 = some ⟨.func, 1, 8, some [.nilFunc], false, false, true⟩ := by kernel_rfl
theorem aov : ah Tryz.prog 54 = some ⟨.array 2 38, 2, 8, some [.int .u32 0, .int .u32 0], false, false, false⟩ := by kernel_rfl
theorem anf : ah Tryz.prog 55 = some ⟨.func, 1, 8, some [.nilFunc], false, false, true⟩ := by kernel_rfl
theorem aqd : ah Tryz.prog 56 = some ⟨.func, 1, 8, some [.nilFunc], false, false, true⟩ := by kernel_rfl
theorem ant : ah Tryz.prog 58 = some ⟨.func, 1, 8, some [.nilFunc], false, false, true⟩ := by kernel_rfl
theorem apc : ah Tryz.prog 59 = some ⟨.func, 1, 8, some [.nilFunc], false, false, true⟩ := by kernel_rfl
theorem apt : ah Tryz.prog 60 = some ⟨.func, 1, 8, some [.nilFunc], false, false, true⟩ := by kernel_rfl
theorem an9 : ah Tryz.prog 62 = some ⟨.func, 1, 8, some [.nilFunc], false, false, true⟩ := by kernel_rfl
theorem amx : ah Tryz.prog 63 = some ⟨.func, 1, 8, some [.nilFunc], false, false, true⟩ := by kernel_rfl
theorem ap9 : ah Tryz.prog 64 = some ⟨.func, 1, 8, some [.nilFunc], false, false, true⟩ := by kernel_rfl
theorem aoz : ah Tryz.prog 65 = some ⟨.func, 1, 8, some [.nilFunc], false, false, true⟩ := by kernel_rfl
theorem ape : ah Tryz.prog 66 = some ⟨.func, 1, 8, some [.nilFunc], false, false, true⟩ := by kernel_rfl
theorem aqf : ah Tryz.prog 68 = some ⟨.func, 1, 8, some [.nilFunc], false, false, true⟩ := by kernel_rfl
theorem aqe : ah Tryz.prog 69 = some ⟨.func, 1, 8, some [.nilFunc], false, false, true⟩ := by kernel_rfl
theorem aqm : ah Tryz.prog 70 = some ⟨.func, 1, 8, some [.nilFunc], false, false, true⟩ := by kernel_rfl
theorem amd : ah Tryz.prog 71 = some ⟨.func, 1, 8, some [.nilFunc], false, false, true⟩ := by kernel_rfl
theorem aq6 : ah Tryz.prog 72 = some ⟨.func, 1, 8, some [.nilFunc], false, false, true⟩ := by kernel_rfl
theorem apm : ah Tryz.prog 73 = some ⟨.func, 1, 8, some [.nilFunc], false, false, true⟩ := by kernel_rfl
theorem aq8 : ah Tryz.prog 74 = some ⟨.func, 1, 8, some [.nilFunc], false, false, true⟩ := by kernel_rfl
theorem aqn : ah Tryz.prog 75 = some ⟨.func, 1, 8, some [.nilFunc], false, false, true⟩ := by kernel_rfl
theorem ams : ah Tryz.prog 76 = some ⟨.slice 155, 1, 24, some [.slice none 0 0], false, false, true⟩ := by kernel_rfl
theorem apv : ah Tryz.prog 78 = some ⟨.func, 1, 8, some [.nilFunc], false, false, true⟩ := by kernel_rfl
theorem apu : ah Tryz.prog 80 = some ⟨.func, 1, 8, some [.nilFunc], false, false, true⟩ := by kernel_rfl
theorem ane : ah Tryz.prog 81 = some ⟨.func, 1, 8, some [.nilFunc], false, false, true⟩ := by kernel_rfl
theorem ang : ah Tryz.prog 83 = some ⟨.func, 1, 8, some [.nilFunc], false, false, true⟩ := by kernel_rfl
theorem an6 : ah Tryz.prog 84 = some ⟨.func, 1, 8, some [.nilFunc], false, false, true⟩ := by kernel_rfl
theorem apr : ah Tryz.prog 85 = some ⟨.func, 1, 8, some [.nilFunc], false, false, true⟩ := by kernel_rfl
theorem amg : ah Tryz.prog 87 = some ⟨.func, 1, 8, some [.nilFunc], false, false, true⟩ := by kernel_rfl
theorem ap0 : ah Tryz.prog 89 = some ⟨.func, 1, 8, some [.nilFunc], false, false, true⟩ := by kernel_rfl
theorem aqv : ah Tryz.prog 91 = some ⟨.func, 1, 8, some [.nilFunc], false, false, true⟩ := by kernel_rfl
theorem apa : ah Tryz.prog 92 = some ⟨.func, 1, 8, some [.nilFunc], false, false, true⟩ := by kernel_rfl
theorem anb : ah Tryz.prog 93 = some ⟨.func, 1, 8, some [.nilFunc], false, false, true⟩ := by kernel_rfl
theorem aqc : ah Tryz.prog 94 = some ⟨.func, 1, 8, some [.nilFunc], false, false, true⟩ := by kernel_rfl
theorem ans : ah Tryz.prog 95 = some ⟨.func, 1, 8, some [.nilFunc], false, false, true⟩ := by kernel_rfl
theorem aq4 : ah Tryz.prog 96 = some ⟨.func, 1, 8, some [.nilFunc], false, false, true⟩ := by kernel_rfl
theorem amt : ah Tryz.prog 97 = some ⟨.func, 1, 8, some [.nilFunc], false, false, true⟩ := by kernel_rfl
theorem ana : ah Tryz.prog 98 = some ⟨.func, 1, 8, some [.nilFunc], false, false, true⟩ := by kernel_rfl
theorem amy : ah Tryz.prog 99 = some ⟨.func, 1, 8, some [.nilFunc], false, false, true⟩ := by kernel_rfl
theorem ajj : ah Tryz.prog 100 = some ⟨.func, 1, 8, some [.nilFunc], false, false, true⟩ := by kernel_rfl
theorem akr : ah Tryz.prog 101 = some ⟨.func, 1, 8, some [.nilFunc], false, false, true⟩ := by kernel_rfl
theorem ahw : ah Tryz.prog 102 = some ⟨.func, 1, 8, some [.nilFunc], false, false, true⟩ := by kernel_rfl
theorem akw : ah Tryz.prog 104 = some ⟨.func, 1, 8, some [.nilFunc], false, false, true⟩ := by kernel_rfl
theorem ai0 : ah Tryz.prog 105 = some ⟨.func, 1, 8, some [.nilFunc], false, false, true⟩ := by kernel_rfl
theorem alh : ah Tryz.prog 106 = some ⟨.func, 1, 8, some [.nilFunc], false, false, true⟩ := by kernel_rfl
theorem age : ah Tryz.prog 107 = some ⟨.func, 1, 8, some [.nilFunc], false, false, true⟩ := by kernel_rfl
theorem afw : ah Tryz.prog 108 = some ⟨.func, 1, 8, some [.nilFunc], false, false, true⟩ := by kernel_rfl
theorem am5 : ah Tryz.prog 109 = some ⟨.func, 1, 8, some [.nilFunc], false, false, true⟩ := by kernel_rfl
theorem ah4 : ah Tryz.prog 110 = some ⟨.func, 1, 8, some [.nilFunc], false, false, true⟩ := by kernel_rfl
theorem ajq : ah Tryz.prog 111 = some ⟨.func, 1, 8, some [.nilFunc], false, false, true⟩ := by kernel_rfl
theorem akx : ah Tryz.prog 112 = some ⟨.func, 1, 8, some [.nilFunc], false, false, true⟩ := by kernel_rfl
theorem akh : ah Tryz.prog 113 = some ⟨.func, 1, 8, some [.nilFunc], false, false, true⟩ := by kernel_rfl
theorem aie : ah Tryz.prog 114 = some ⟨.slice 120, 1, 24, some [.slice none 0 0], false, false, true⟩ := by kernel_rfl
theorem ai1 : ah Tryz.prog 116 = some ⟨.func, 1, 8, some [.nilFunc], false, false, true⟩ := by kernel_rfl
theorem akt : ah Tryz.prog 117 = some ⟨.func, 1, 8, some [.nilFunc], false, false, true⟩ := by kernel_rfl
theorem ai9 : ah Tryz.prog 118 = some ⟨.slice 121, 1, 24, some [.slice none 0 0], false, false, true⟩ := by kernel_rfl
theorem am7 : ah Tryz.prog 119 = some ⟨.struct [(0, 3, false), (1, 118, false)], 2, 32, some [.int .i64 0, .slice none 0 0], false, false, false⟩ := by kernel_rfl
theorem ag5 : ah Tryz.prog 120 = some ⟨.struct [(0, 3, false), (1, 118, false)], 2, 32, some [.int .i64 0, .slice none 0 0], false, false, false⟩ := by kernel_rfl
theorem akl : ah Tryz.prog 121 = some ⟨.slice 3, 1, 24, some [.slice none 0 0], false, false, true⟩ := by kernel_rfl
theorem ajz : ah Tryz.prog 122 = some ⟨.func, 1, 8, some [.nilFunc], false, false, true⟩ := by kernel_rfl
theorem aht : ah Tryz.prog 124 = some ⟨.func, 1, 8, some [.nilFunc], false, false, true⟩ := by kernel_rfl
theorem alz : ah Tryz.prog 125 = some ⟨.func, 1, 8, some [.nilFunc], false, false, true⟩ := by kernel_rfl
theorem ale : ah Tryz.prog 126 = some ⟨.func, 1, 8, some [.nilFunc], false, false, true⟩ := by kernel_rfl
theorem ajt : ah Tryz.prog 127 = some ⟨.func, 1, 8, some [.nilFunc], false, false, true⟩ := by kernel_rfl
theorem ahm : ah Tryz.prog 128 = some ⟨.func, 1, 8, some [.nilFunc], false, false, true⟩ := by kernel_rfl
theorem ag7 : ah Tryz.prog 129 = some ⟨.func, 1, 8, some [.nilFunc], false, false, true⟩ := by kernel_rfl
theorem ag9 : ah Tryz.prog 130 = some ⟨.func, 1, 8, some [.nilFunc], false, false, true⟩ := by kernel_rfl
theorem ags : ah Tryz.prog 131 = some ⟨.func, 1, 8, some [.nilFunc], false, false, true⟩ := by kernel_rfl
theorem agp : ah Tryz.prog 132 = some ⟨.func, 1, 8, some [.nilFunc], false, false, true⟩ := by kernel_rfl
theorem agf : ah Tryz.prog 133 = some ⟨.func, 1, 8, some [.nilFunc], false, false, true⟩ := by kernel_rfl
theorem agz : ah Tryz.prog 134 = some ⟨.func, 1, 8, some [.nilFunc], false, false, true⟩ := by kernel_rfl
theorem ahf : ah Tryz.prog 135 = some ⟨.struct [(0, 5, false), (1, 5, false)], 2, 2, some [.int .u8 0, .int .u8 0], false, false, false⟩ := by kernel_rfl
theorem ahk : ah Tryz.prog 136 = some ⟨.struct [(0, 5, false), (1, 5, false)], 2, 2, some [.int .u8 0, .int .u8 0], false, false, false⟩ := by kernel_rfl
theorem ajc : ah Tryz.prog 137 = some ⟨.int .u64, 1, 8, some [.int .u64 0], false, false, true⟩ := by kernel_rfl
theorem aj0 : ah Tryz.prog 138 = some ⟨.func, 1, 8, some [.nilFunc], false, false, true⟩ := by kernel_rfl
theorem alj : ah Tryz.prog 139 = some ⟨.func, 1, 8, some [.nilFunc], false, false, true⟩ := by kernel_rfl
theorem ahz : ah Tryz.prog 140 = some ⟨.func, 1, 8, some [.nilFunc], false, false, true⟩ := by kernel_rfl
theorem al5 : ah Tryz.prog 141 = some ⟨.func, 1, 8, some [.nilFunc], false, false, true⟩ := by kernel_rfl
theorem akf : ah Tryz.prog 142 = some ⟨.func, 1, 8, some [.nilFunc], false, false, true⟩ := by kernel_rfl
theorem ahs : ah Tryz.prog 143 = some ⟨.func, 1, 8, some [.nilFunc], false, false, true⟩ := by kernel_rfl
theorem ahe : ah Tryz.prog 144 = some ⟨.func, 1, 8, some [.nilFunc], false, false, true⟩ := by kernel_rfl
theorem alr : ah Tryz.prog 146 = some ⟨.func, 1, 8, some [.nilFunc], false, false, true⟩ := by kernel_rfl
theorem alm : ah Tryz.prog 147 = some ⟨.func, 1, 8, some [.nilFunc], false, false, true⟩ := by kernel_rfl
theorem ajb : ah Tryz.prog 148 = some ⟨.func, 1, 8, some [.nilFunc], false, false, true⟩ := by kernel_rfl
theorem aiz : ah Tryz.prog 150 = some ⟨.func, 1, 8, some [.nilFunc], false, false, true⟩ := by kernel_rfl
theorem alt : ah Tryz.prog 152 = some ⟨.func, 1, 8, some [.nilFunc], false, false, true⟩ := by kernel_rfl
theorem afx : ah Tryz.prog 153 = some ⟨.func, 1, 8, some [.nilFunc], false, false, true⟩ := by kernel_rfl
theorem ake : ah Tryz.prog 154 = some ⟨.struct [(0, 4, false), (1, 3, false), (2, 3, false), (3, 3, false)], 4, 32, some [.bool false, .int .i64 0, .int .i64 0, .int .i64 0], false, false, false⟩ := by kernel_rfl
theorem ako : ah Tryz.prog 155 = some ⟨.struct [(0, 4, false), (1, 3, false), (2, 3, false), (3, 3, false)], 4, 32, some [.bool false, .int .i64 0, .int .i64 0, .int .i64 0], false, false, false⟩ := by kernel_rfl
theorem aid : ah Tryz.prog 156 = some ⟨.func, 1, 8, some [.nilFunc], false, false, true⟩ := by kernel_rfl
theorem agn : ah Tryz.prog 157 = some ⟨.func, 1, 8, some [.nilFunc], false, false, true⟩ := by kernel_rfl
theorem ahr : ah Tryz.prog 158 = some ⟨.func, 1, 8, some [.nilFunc], false, false, true⟩ := by kernel_rfl
theorem akb : ah Tryz.prog 159 = some ⟨.int .u64, 1, 8, some [.int .u64 0], false, false, true⟩ := by kernel_rfl
theorem am2 : ah Tryz.prog 160 = some ⟨.func, 1, 8, some [.nilFunc], false, false, true⟩ := by kernel_rfl
theorem alp : ah Tryz.prog 161 = some ⟨.struct [(0, 32, false)], 1, 24, some [.slice none 0 0], false, false, false⟩ := by kernel_rfl
theorem am0 : ah Tryz.prog 162 = some ⟨.struct [(0, 32, false)], 1, 24, some [.slice none 0 0], false, false, false⟩ := by kernel_rfl
theorem al0 : ah Tryz.prog 163 = some ⟨.func, 1, 8, some [.nilFunc], false, false, true⟩ := by kernel_rfl
theorem al4 : ah Tryz.prog 164 = some ⟨.func, 1, 8, some [.nilFunc], false, false, true⟩ := by kernel_rfl
theorem akp : ah Tryz.prog 165 = some ⟨.func, 1, 8, some [.nilFunc], false, false, true⟩ := by kernel_rfl
theorem aif : ah Tryz.prog 166 = some ⟨.func, 1, 8, some [.nilFunc], false, false, true⟩ := by kernel_rfl
theorem agb : ah Tryz.prog 167 = some ⟨.func, 1, 8, some [.nilFunc], false, false, true⟩ := by kernel_rfl
theorem ajh : ah Tryz.prog 168 = some ⟨.func, 1, 8, some [.nilFunc], false, false, true⟩ := by kernel_rfl
theorem ah6 : ah Tryz.prog 169 = some ⟨.func, 1, 8, some [.nilFunc], false, false, true⟩ := by kernel_rfl
theorem alq : ah Tryz.prog 170 = some ⟨.func, 1, 8, some [.nilFunc], false, false, true⟩ := by kernel_rfl
theorem ak7 : ah Tryz.prog 171 = some ⟨.func, 1, 8, some [.nilFunc], false, false, true⟩ := by kernel_rfl
theorem afo : ah Tryz.prog 172 = some ⟨.func, 1, 8, some [.nilFunc], false, false, true⟩ := by kernel_rfl
theorem akm : ah Tryz.prog 173 = some ⟨.slice 4, 1, 24, some [.slice none 0 0], false, false, true⟩ := by kernel_rfl
theorem aj5 : ah Tryz.prog 174 = some ⟨.func, 1, 8, some [.nilFunc], false, false, true⟩ := by kernel_rfl
theorem agk : ah Tryz.prog 175 = some ⟨.func, 1, 8, some [.nilFunc], false, false, true⟩ := by kernel_rfl
theorem agm : ah Tryz.prog 176 = some ⟨.func, 1, 8, some [.nilFunc], false, false, true⟩ := by kernel_rfl
theorem ajn : ah Tryz.prog 177 = some ⟨.map 38 38, 1, 8, some [.map none], false, false, true⟩ := by kernel_rfl
theorem am8 : ah Tryz.prog 178 = some ⟨.func, 1, 8, some [.nilFunc], false, false, true⟩ := by kernel_rfl
theorem afn : ah Tryz.prog 179 = some ⟨.func, 1, 8, some [.nilFunc], false, false, true⟩ := by kernel_rfl
theorem akd : ah Tryz.prog 180 = some ⟨.func, 1, 8, some [.nilFunc], false, false, true⟩ := by kernel_rfl
theorem agv : ah Tryz.prog 182 = some ⟨.func, 1, 8, some [.nilFunc], false, false, true⟩ := by kernel_rfl
theorem alk : ah Tryz.prog 183 = some ⟨.func, 1, 8, some [.nilFunc], false, false, true⟩ := by kernel_rfl
theorem ajp : ah Tryz.prog 184 = some ⟨.func, 1, 8, some [.nilFunc], false, false, true⟩ := by kernel_rfl
theorem afy : ah Tryz.prog 185 = some ⟨.func, 1, 8, some [.nilFunc], false, false, true⟩ := by kernel_rfl
theorem afv : ah Tryz.prog 186 = some ⟨.func, 1, 8, some [.nilFunc], false, false, true⟩ := by kernel_rfl
theorem alx : ah Tryz.prog 187 = some ⟨.func, 1, 8, some [.nilFunc], false, false, true⟩ := by kernel_rfl
theorem ahl : ah Tryz.prog 188 = some ⟨.func, 1, 8, some [.nilFunc], false, false, true⟩ := by kernel_rfl
theorem ak2 : ah Tryz.prog 189 = some ⟨.func, 1, 8, some [.nilFunc], false, false, true⟩ := by kernel_rfl
theorem als : ah Tryz.prog 190 = some ⟨.func, 1, 8, some [.nilFunc], false, false, true⟩ := by kernel_rfl
theorem agh : ah Tryz.prog 191 = some ⟨.int .i64, 1, 8, some [.int .i64 0], false, false, true⟩ := by kernel_rfl
theorem ajo : ah Tryz.prog 193 = some ⟨.func, 1, 8, some [.nilFunc], false, false, true⟩ := by kernel_rfl
theorem al6 : ah Tryz.prog 194 = some ⟨.func, 1, 8, some [.nilFunc], false, false, true⟩ := by kernel_rfl
theorem aj8 : ah Tryz.prog 195 = some ⟨.func, 1, 8, some [.nilFunc], false, false, true⟩ := by kernel_rfl
theorem akk : ah Tryz.prog 196 = some ⟨.func, 1, 8, some [.nilFunc], false, false, true⟩ := by kernel_rfl
theorem ait : ah Tryz.prog 197 = some ⟨.func, 1, 8, some [.nilFunc], false, false, true⟩ := by kernel_rfl
theorem aib : ah Tryz.prog 198 = some ⟨.func, 1, 8, some [.nilFunc], false, false, true⟩ := by kernel_rfl
theorem ajk : ah Tryz.prog 199 = some ⟨.func, 1, 8, some [.nilFunc], false, false, true⟩ := by kernel_rfl
theorem ajs : ah Tryz.prog 200 = some ⟨.func, 1, 8, some [.nilFunc], false, false, true⟩ := by kernel_rfl
theorem aft : ah Tryz.prog 201 = some ⟨.func, 1, 8, some [.nilFunc], false, false, true⟩ := by kernel_rfl
theorem ahq : ah Tryz.prog 203 = some ⟨.func, 1, 8, some [.nilFunc], false, false, true⟩ := by kernel_rfl
theorem ali : ah Tryz.prog 204 = some ⟨.func, 1, 8, some [.nilFunc], false, false, true⟩ := by kernel_rfl
theorem agx : ah Tryz.prog 205 = some ⟨.func, 1, 8, some [.nilFunc], false, false, true⟩ := by kernel_rfl
theorem ahc : ah Tryz.prog 206 = some ⟨.func, 1, 8, some [.nilFunc], false, false, true⟩ := by kernel_rfl
theorem aln : ah Tryz.prog 207 = some ⟨.func, 1, 8, some [.nilFunc], false, false, true⟩ := by kernel_rfl
theorem alg : ah Tryz.prog 208 = some ⟨.func, 1, 8, some [.nilFunc], false, false, true⟩ := by kernel_rfl
theorem agq : ah Tryz.prog 209 = some ⟨.func, 1, 8, some [.nilFunc], false, false, true⟩ := by kernel_rfl
theorem ak4 : ah Tryz.prog 210 = some ⟨.func, 1, 8, some [.nilFunc], false, false, true⟩ := by kernel_rfl
theorem al3 : ah Tryz.prog 211 = some ⟨.pointer 162, 1, 8, some [.pointer none], false, false, true⟩ := by kernel_rfl
theorem ajv : ah Tryz.prog 212 = some ⟨.func, 1, 8, some [.nilFunc], false, false, true⟩ := by kernel_rfl
theorem ah9 : ah Tryz.prog 213 = some ⟨.array 32 5, 32, 32, some [.int .u8 0, .int .u8 0, .int .u8 0, .int .u8 0, .int .u8 0, .int .u8 0, .int .u8 0, .int .u8 0, .int .u8 0, .int .u8 0, .int .u8 0, .int .u8 0, .int .u8 0, .int .u8 0, .int .u8 0, .int .u8 0, .int .u8 0, .int .u8 0, .int .u8 0, .int .u8 0, .int .u8 0, .int .u8 0, .int .u8 0, .int .u8 0, .int .u8 0, .int .u8 0, .int .u8 0, .int .u8 0, .int .u8 0, .int .u8 0, .int .u8 0, .int .u8 0], false, false, false⟩ := by kernel_rfl
theorem agc : ah Tryz.prog 214 = some ⟨.int .u64, 1, 8, some [.int .u64 0], false, false, true⟩ := by kernel_rfl
theorem ag8 : ah Tryz.prog 215 = some ⟨.func, 1, 8, some [.nilFunc], false, false, true⟩ := by kernel_rfl
theorem aik : ah Tryz.prog 216 = some ⟨.func, 1, 8, some [.nilFunc], false, false, true⟩ := by kernel_rfl
theorem ais : ah Tryz.prog 217 = some ⟨.func, 1, 8, some [.nilFunc], false, false, true⟩ := by kernel_rfl
theorem aje : ah Tryz.prog 218 = some ⟨.pointer 3, 1, 8, some [.pointer none], false, false, true⟩ := by kernel_rfl
theorem ajx : ah Tryz.prog 219 = some ⟨.func, 1, 8, some [.nilFunc], false, false, true⟩ := by kernel_rfl
theorem akz : ah Tryz.prog 220 = some ⟨.func, 1, 8, some [.nilFunc], false, false, true⟩ := by kernel_rfl
theorem aj2 : ah Tryz.prog 221 = some ⟨.func, 1, 8, some [.nilFunc], false, false, true⟩ := by kernel_rfl
theorem alv : ah Tryz.prog 222 = some ⟨.func, 1, 8, some [.nilFunc], false, false, true⟩ := by kernel_rfl
theorem ain : ah Tryz.prog 223 = some ⟨.func, 1, 8, some [.nilFunc], false, false, true⟩ := by kernel_rfl
theorem alc : ah Tryz.prog 224 = some ⟨.pointer 214, 1, 8, some [.pointer none], false, false, true⟩ := by kernel_rfl
theorem ai6 : ah Tryz.prog 226 = some ⟨.func, 1, 8, some [.nilFunc], false, false, true⟩ := by kernel_rfl
theorem aih : ah Tryz.prog 227 = some ⟨.func, 1, 8, some [.nilFunc], false, false, true⟩ := by kernel_rfl
theorem ah5 : ah Tryz.prog 228 = some ⟨.slice 27, 1, 24, some [.slice none 0 0], false, false, true⟩ := by kernel_rfl
theorem aji : ah Tryz.prog 229 = some ⟨.func, 1, 8, some [.nilFunc], false, false, true⟩ := by kernel_rfl
theorem ahd : ah Tryz.prog 230 = some ⟨.func, 1, 8, some [.nilFunc], false, false, true⟩ := by kernel_rfl
theorem ahj : ah Tryz.prog 231 = some ⟨.func, 1, 8, some [.nilFunc], false, false, true⟩ := by kernel_rfl
theorem aka : ah Tryz.prog 232 = some ⟨.func, 1, 8, some [.nilFunc], false, false, true⟩ := by kernel_rfl
theorem akg : ah Tryz.prog 233 = some ⟨.func, 1, 8, some [.nilFunc], false, false, true⟩ := by kernel_rfl
theorem agj : ah Tryz.prog 234 = some ⟨.func, 1, 8, some [.nilFunc], false, false, true⟩ := by kernel_rfl
theorem ai7 : ah Tryz.prog 235 = some ⟨.func, 1, 8, some [.nilFunc], false, false, true⟩ := by kernel_rfl
theorem ah2 : ah Tryz.prog 236 = some ⟨.func, 1, 8, some [.nilFunc], false, false, true⟩ := by kernel_rfl
theorem aij : ah Tryz.prog 237 = some ⟨.func, 1, 8, some [.nilFunc], false, false, true⟩ := by kernel_rfl
theorem afq : ah Tryz.prog 238 = some ⟨.func, 1, 8, some [.nilFunc], false, false, true⟩ := by kernel_rfl
theorem ag3 : ah Tryz.prog 241 = some ⟨.array 0 16, 0, 0, some [], false, false, false⟩ := by kernel_rfl
theorem afl : ah Tryz.prog 244 = some ⟨.func, 1, 8, some [.nilFunc], false, false, true⟩ := by kernel_rfl
theorem aj9 : ah Tryz.prog 245 = some ⟨.int .u8, 1, 1, some [.int .u8 0], false, false, true⟩ := by kernel_rfl
theorem ahb : ah Tryz.prog 246 = some ⟨.int .u8, 1, 1, some [.int .u8 0], false, false, true⟩ := by kernel_rfl
theorem aky : ah Tryz.prog 247 = some ⟨.func, 1, 8, some [.nilFunc], false, false, true⟩ := by kernel_rfl
theorem ai8 : ah Tryz.prog 248 = some ⟨.pointer 5, 1, 8, some [.pointer none], false, false, true⟩ := by kernel_rfl
theorem ald : ah Tryz.prog 249 = some ⟨.int .i32, 1, 4, some [.int .i32 0], false, false, true⟩ := by kernel_rfl
theorem ajf : ah Tryz.prog 250 = some ⟨.int .i32, 1, 4, some [.int .i32 0], false, false, true⟩ := by kernel_rfl
theorem aol : ae7 Tryz.prog a64 0 := ⟨atm, ⟨asv, ⟨atb, ⟨au0, ⟨avg, ⟨av3, ⟨avq, ⟨atw, ⟨atx, ⟨an3, ⟨apo, ⟨anw, ⟨aq7, ⟨ap1, ⟨amz, ⟨anr, ⟨apb, ⟨ame, ⟨an5, ⟨aok, ⟨apk, ⟨aon, ⟨apf, ⟨anq, ⟨aod, ⟨aqt, ⟨aog, ⟨aqx, ⟨apy, ⟨aps, ⟨anh, ⟨aox, ⟨amj, ⟨anm, ⟨amb, ⟨ap5, ⟨aqh, ⟨ano, ⟨aoy, ⟨aqy, ⟨aq0, ⟨amv, ⟨aq3, ⟨aop, ⟨apg, ⟨aov, ⟨anf, ⟨aqd, ⟨ant, ⟨apc, ⟨apt, ⟨an9, ⟨amx, ⟨ap9, ⟨aoz, ⟨ape, ⟨aqf, ⟨aqe, ⟨aqm, ⟨amd, ⟨aq6, ⟨apm, ⟨aq8, ⟨aqn, ⟨ams, ⟨apv, ⟨apu, ⟨ane, ⟨ang, ⟨an6, ⟨apr, ⟨amg, ⟨ap0, ⟨aqv, ⟨apa, ⟨anb, ⟨aqc, ⟨ans, ⟨aq4, ⟨amt, ⟨ana, ⟨amy, ⟨ajj, ⟨akr, ⟨ahw, ⟨akw, ⟨ai0, ⟨alh, ⟨age, ⟨afw, ⟨am5, ⟨ah4, ⟨ajq, ⟨akx, ⟨akh, ⟨aie, ⟨ai1, ⟨akt, ⟨ai9, ⟨am7, ⟨ag5, ⟨akl, ⟨ajz, ⟨aht, ⟨alz, ⟨ale, ⟨ajt, ⟨ahm, ⟨ag7, ⟨ag9, ⟨ags, ⟨agp, ⟨agf, ⟨agz, ⟨ahf, ⟨ahk, ⟨ajc, ⟨aj0, ⟨alj, ⟨ahz, ⟨al5, ⟨akf, ⟨ahs, ⟨ahe, ⟨alr, ⟨alm, ⟨ajb, ⟨aiz, ⟨alt, ⟨afx, ⟨ake, ⟨ako, ⟨aid, ⟨agn, ⟨ahr, ⟨akb, ⟨am2, ⟨alp, ⟨am0, ⟨al0, ⟨al4, ⟨akp, ⟨aif, ⟨agb, ⟨ajh, ⟨ah6, ⟨alq, ⟨ak7, ⟨afo, ⟨akm, ⟨aj5, ⟨agk, ⟨agm, ⟨ajn, ⟨am8, ⟨afn, ⟨akd, ⟨agv, ⟨alk, ⟨ajp, ⟨afy, ⟨afv, ⟨alx, ⟨ahl, ⟨ak2, ⟨als, ⟨agh, ⟨ajo, ⟨al6, ⟨aj8, ⟨akk, ⟨ait, ⟨aib, ⟨ajk, ⟨ajs, ⟨aft, ⟨ahq, ⟨ali, ⟨agx, ⟨ahc, ⟨aln, ⟨alg, ⟨agq, ⟨ak4, ⟨al3, ⟨ajv, ⟨ah9, ⟨agc, ⟨ag8, ⟨aik, ⟨ais, ⟨aje, ⟨ajx, ⟨akz, ⟨aj2, ⟨alv, ⟨ain, ⟨alc, ⟨ai6, ⟨aih, ⟨ah5, ⟨aji, ⟨ahd, ⟨ahj, ⟨aka, ⟨akg, ⟨agj, ⟨ai7, ⟨ah2, ⟨aij, ⟨afq, ⟨ag3, ⟨afl, ⟨aj9, ⟨ahb, ⟨aky, ⟨ai8, ⟨ald, ⟨ajf, trivial⟩⟩⟩⟩⟩⟩⟩⟩⟩⟩⟩⟩⟩⟩⟩⟩⟩⟩⟩⟩⟩⟩⟩⟩⟩⟩⟩⟩⟩⟩⟩⟩⟩⟩⟩⟩⟩⟩⟩⟩⟩⟩⟩⟩⟩⟩⟩⟩⟩⟩⟩⟩⟩⟩⟩⟩⟩⟩⟩⟩⟩⟩⟩⟩⟩⟩⟩⟩⟩⟩⟩⟩⟩⟩⟩⟩⟩⟩⟩⟩⟩⟩⟩⟩⟩⟩⟩⟩⟩⟩⟩⟩⟩⟩⟩⟩⟩⟩⟩⟩⟩⟩⟩⟩⟩⟩⟩⟩⟩⟩⟩⟩⟩⟩⟩⟩⟩⟩⟩⟩⟩⟩⟩⟩⟩⟩⟩⟩⟩⟩⟩⟩⟩⟩⟩⟩⟩⟩⟩⟩⟩⟩⟩⟩⟩⟩⟩⟩⟩⟩⟩⟩⟩⟩⟩⟩⟩⟩⟩⟩⟩⟩⟩⟩⟩⟩⟩⟩⟩⟩⟩⟩⟩⟩⟩⟩⟩⟩⟩⟩⟩⟩⟩⟩⟩⟩⟩⟩⟩⟩⟩⟩⟩⟩⟩⟩⟩⟩⟩⟩⟩⟩⟩⟩⟩⟩⟩⟩⟩⟩⟩⟩⟩⟩⟩⟩⟩⟩⟩
theorem af : c7 Tryz.prog b6 := fun t i h => by
 have := xg aol t i h
 rwa [Nat.zero_add] at this
theorem au : Tryz.prog.follows .mixedOrders = true := by kernel_rfl
end Go.Hx
namespace Go.Hx
open Go.Proofs
section
variable {ro : Option Nat} {P : Program} {E : Env} {nt : Nat} {ops : Array Oper} {i : Nat} {o : Oper} {st : HSt} {L : List Nat} {K : List Tr → HSt → Prop} {Q : Exit → HSt → Prop}
theorem qy {out : Out} {gb : Bool} (hT : Reg P E nt ops L (st.after o.dst (some out.val) []) fun T sf => K (⟨i, a5r true out.val.ids, looks st.den o, c8 st.den o.dst [], ek E st.den o⟩ :: T) sf)
 (hi : ops[i]? = some o := by exact rfl) (hw : bc ops st.den o = some gb := by exact rfl) (hd : db nt o.dst = true := by exact rfl) (hq' : hq E true st.den.o (ev st.den) o.op = some out := by exact rfl) (hg : gb = true := by exact rfl)
 (hp : out.pre := by first | exact trivial | (simp only [fb, inR, ju, l8]; omega) | exact ab2 _ _ | exact ⟨trivial, trivial⟩ | exact ⟨trivial, Nat.le_of_ble_eq_true rfl⟩ | (try dsimp only) <;> ((repeat' apply And.intro) <;> first | trivial | rfl | omega | (simp only [dq, bd]; omega) | assumption | exact Nat.le_of_ble_eq_true rfl)) :
 Reg P E nt ops (i :: L) st K := en true hi hw hd hq' hg hp hT
theorem k9 {gb : Bool} (hg : gb = false) (hT : Reg P E nt ops L (st.after o.dst (some (.tup [])) []) fun T sf => K (⟨i, a5r true [], looks st.den o, c8 st.den o.dst [], none⟩ :: T) sf)
 (hi : ops[i]? = some o := by exact rfl) (hw : bc ops st.den o = some gb := by exact rfl) (hd : db nt o.dst = true := by exact rfl) : Reg P E nt ops (i :: L) st K := atv hi hw hd hg hT
theorem m9 (id : Nat) {nw : New} {gb : Bool} (hT : Reg P E nt ops L (st.after o.dst (some nw.val) [(id, some nw.ob)]) fun T sf => K (⟨i, ⟨id, false, true, .tup [], [id], [id], nw.val.ids ++ nw.ob.ids⟩, looks st.den o, c8 st.den o.dst [(id, some nw.ob)], none⟩ :: T) sf)
 (hi : ops[i]? = some o := by exact rfl) (hw : bc ops st.den o = some gb := by exact rfl) (hd : db nt o.dst = true := by exact rfl) (hq' : ha E (ev st.den) id o.op = some nw := by exact rfl) (hn : ni id st = true := by exact rfl) (hg : gb = true := by exact rfl)
 (hp : nw.pre := by first | exact trivial | (try dsimp only) <;> ((repeat' apply And.intro) <;> first | trivial | rfl | omega | assumption)) : Reg P E nt ops (i :: L) st K := zw id hi hw hd hq' hn hg hp hT
theorem s9 {u : Upd} {gb : Bool} (hT : Reg P E nt ops L (st.after o.dst none [(u.id, some u.ob)]) fun T sf => K (⟨i, ⟨0, false, true, .tup [], [u.id], [], u.ob.ids⟩, looks st.den o, c8 st.den o.dst [(u.id, some u.ob)], ek E st.den o⟩ :: T) sf)
 (hi : ops[i]? = some o := by exact rfl) (hw : bc ops st.den o = some gb := by exact rfl) (hd : db nt o.dst = true := by exact rfl) (hq' : hs E st.den.o (ev st.den) o.op = some u := by exact rfl) (hg : gb = true := by exact rfl)
 (hp : u.pre := by first | exact Nat.le_of_ble_eq_true rfl | (try dsimp only) <;> ((repeat' apply And.intro) <;> first | trivial | rfl | omega | (simp only [dq, bd]; omega) | assumption | exact Nat.le_of_ble_eq_true rfl)) : Reg P E nt ops (i :: L) st K := aaz hi hw hd hq' hg hp hT
theorem f9 {rs : List ResultVar} {res : List PC} {p q : Prop} {l : List HC} {vs : List PC} (h1 : tu E st.den rs = some (p, l)) (h2 : lj st.den.o l = some (q, vs)) (hc : CoL vs res)
 (hp : p := by (repeat' apply And.intro) <;> first | trivial | exact Nat.le_of_ble_eq_true rfl | rfl) (hq : q := by (repeat' apply And.intro) <;> first | trivial | exact Nat.le_of_ble_eq_true rfl | rfl) : aej E st rs res := ⟨p, l, q, vs, h1, hp, h2, hq, hc⟩
theorem c9 {f : Option HR} {x : HR} (h : f = some x := by exact rfl) : ∃ y, f = some y ∧ CoR y x := ⟨x, h, CoR.refl x⟩
theorem u9 {f : Option ai} {x : ai} (h : f = some x := by exact rfl) : ∃ y, f = some y ∧ CoO y x := ⟨x, h, CoO.refl x⟩
theorem zy {f : Option HR} {x y : HR} (h : f = some y := by exact rfl) (c : CoR y x := by first | exact CoR.refl _ | exact coi (by omega) | exact cob (by simp_all)) : ∃ y, f = some y ∧ CoR y x := ⟨y, h, c⟩
theorem l9 {a b : Nat} (h : Nat.ble a b = true := by exact rfl) : a ≤ b := Nat.le_of_ble_eq_true h
theorem ty {n : Nat} : ((n : Nat) : Int).toNat = n := Int.toNat_natCast n
end
theorem gy {ro : Option Nat} {nt id : Nat} {ops : Array Oper} {st : HSt} {Q : Exit → HSt → Prop} (h : Reg Tryz.prog b6 nt ops (List.range ops.size) st fun _ sf => Q .normal sf) : HW (ro := ro) Tryz.prog nt (.region id ops false) st Q := a5y af h
end Go.Hx
namespace Go.Hx
open Go.Proofs
theorem sx7 {ro : Option Nat} {nt id : Nat} {ops : Array Oper} {st : HSt} {y : Code} {Q : Exit → HSt → Prop} (h : Reg Tryz.prog b6 nt ops (List.range ops.size) st fun _ sf => awx (ro := ro) Tryz.prog nt y Q .normal sf) : HW (ro := ro) Tryz.prog nt (.seq (.region id ops false) y) st Q := a7 (a5y af h)
theorem hx8 {ro : Option Nat} {P : Program} {E : Env} {nt : Nat} {st : HSt} {Q : Exit → HSt → Prop} {rs : List ResultVar} {res : List PC} {p q : Prop} {l : List HC} {vs : List PC} (hQ : Q .ret st = ((Exit.ret = .normal ∨ Exit.ret = .ret) ∧ aej E st rs res)) (h1 : tu E st.den rs = some (p, l)) (h2 : lj st.den.o l = some (q, vs)) (hc : CoL vs res)
 (hp : p := by (repeat' apply And.intro) <;> first | trivial | exact Nat.le_of_ble_eq_true rfl | rfl) (hq : q := by (repeat' apply And.intro) <;> first | trivial | exact Nat.le_of_ble_eq_true rfl | rfl) : HW (ro := ro) P nt .ret st Q := ap (hQ ▸ ⟨.inr rfl, p, l, q, vs, h1, hp, h2, hq, hc⟩)
end Go.Hx
end
