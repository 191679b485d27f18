/- A part of the proof: HxEnv. -/
import Derived.Test.YtkkenjdfbojdlaaGreatDoorProg
import Derived.Test.YtkkenjdfbojdlaaGreatDoorEx14
set_option linter.all false
section
namespace Go.Hx
open Go.Proofs
def ab1:List (Option TI):=[
 none,
 some ⟨.func,1,8,some [.nilFunc],false,false,true⟩,
 some ⟨.int .i64,1,8,some [.int .i64 0],false,false,true⟩,
 some ⟨.int .i64,1,8,some [.int .i64 0],false,false,true⟩,
 some ⟨.bool,1,1,some [.bool false],false,false,true⟩,
 some ⟨.int .u8,1,1,some [.int .u8 0],false,false,true⟩,
 some ⟨.int .u8,1,1,some [.int .u8 0],false,false,true⟩,
 some ⟨.struct [(0,2,false),(1,3,false),(2,4,false),(3,6,false)],4,24,some [.int .i64 0, .int .i64 0, .bool false, .int .u8 0],false,false,false⟩,
 some ⟨.struct [(0,2,false),(1,3,false),(2,4,false),(3,6,false)],4,24,some [.int .i64 0, .int .i64 0, .bool false, .int .u8 0],false,false,false⟩,
 some ⟨.string,1,16,some [.string ⟨#[]⟩],false,false,true⟩,
 some ⟨.string,1,16,some [.string ⟨#[]⟩],false,false,true⟩,
 some ⟨.string,1,16,some [.string ⟨#[]⟩],false,false,true⟩,
 some ⟨.int .u64,1,8,some [.int .u64 0],false,false,true⟩,
 none,
 none,
 some ⟨.pointer 271,1,8,some [.pointer none],false,false,true⟩,
 some ⟨.pointer 274,1,8,some [.pointer none],false,false,true⟩,
 some ⟨.pointer 282,1,8,some [.pointer none],false,false,true⟩,
 none,
 none,
 none,
 some ⟨.int .i32,1,4,some [.int .i32 0],false,false,true⟩,
 some ⟨.slice 113,1,24,some [.slice none 0 0],false,false,true⟩,
 some ⟨.slice 5,1,24,some [.slice none 0 0],false,false,true⟩,
 some ⟨.struct [(0,5,false),(1,22,false),(2,22,false),(3,23,false)],4,80,some [.int .u8 0, .slice none 0 0, .slice none 0 0, .slice none 0 0],false,false,false⟩,
 some ⟨.struct [(0,5,false),(1,22,false),(2,22,false),(3,23,false)],4,80,some [.int .u8 0, .slice none 0 0, .slice none 0 0, .slice none 0 0],false,false,false⟩,
 some ⟨.slice 48,1,24,some [.slice none 0 0],false,false,true⟩,
 some ⟨.slice 49,1,24,some [.slice none 0 0],false,false,true⟩,
 some ⟨.slice 46,1,24,some [.slice none 0 0],false,false,true⟩,
 none,
 some ⟨.func,1,8,some [.nilFunc],false,false,true⟩,
 some ⟨.func,1,8,some [.nilFunc],false,false,true⟩,
 some ⟨.slice 129,1,24,some [.slice none 0 0],false,false,true⟩,
 some ⟨.struct [(0,28,false),(1,3,false),(2,32,false)],3,56,some [.slice none 0 0, .int .i64 0, .slice none 0 0],false,false,false⟩,
 some ⟨.struct [(0,28,false),(1,3,false),(2,32,false)],3,56,some [.slice none 0 0, .int .i64 0, .slice none 0 0],false,false,false⟩,
 some ⟨.int .i64,1,8,some [.int .i64 0],false,false,true⟩,
 none,
 some ⟨.func,1,8,some [.nilFunc],false,false,true⟩,
 some ⟨.func,1,8,some [.nilFunc],false,false,true⟩,
 some ⟨.func,1,8,some [.nilFunc],false,false,true⟩,
 some ⟨.func,1,8,some [.nilFunc],false,false,true⟩,
 some ⟨.func,1,8,some [.nilFunc],false,false,true⟩,
 some ⟨.slice 45,1,24,some [.slice none 0 0],false,false,true⟩,
 some ⟨.int .u32,1,4,some [.int .u32 0],false,false,true⟩,
 some ⟨.struct [(0,43,false),(1,43,false)],2,8,some [.int .u32 0, .int .u32 0],false,false,false⟩,
 some ⟨.struct [(0,43,false),(1,43,false)],2,8,some [.int .u32 0, .int .u32 0],false,false,false⟩,
 some ⟨.int .u32,1,4,some [.int .u32 0],false,false,true⟩,
 some ⟨.struct [(0,46,false),(1,46,false)],2,8,some [.int .u32 0, .int .u32 0],false,false,false⟩,
 some ⟨.struct [(0,46,false),(1,46,false)],2,8,some [.int .u32 0, .int .u32 0],false,false,false⟩,
 some ⟨.struct [(0,46,false),(1,46,false)],2,8,some [.int .u32 0, .int .u32 0],false,false,false⟩,
 some ⟨.func,1,8,some [.nilFunc],false,false,true⟩,
 none,
 some ⟨.func,1,8,some [.nilFunc],false,false,true⟩,
 some ⟨.func,1,8,some [.nilFunc],false,false,true⟩,
 some ⟨.func,1,8,some [.nilFunc],false,false,true⟩,
 some ⟨.slice 28,1,24,some [.slice none 0 0],false,false,true⟩,
 some ⟨.func,1,8,some [.nilFunc],false,false,true⟩,
 some ⟨.slice 9,1,24,some [.slice none 0 0],false,false,true⟩,
 some ⟨.func,1,8,some [.nilFunc],false,false,true⟩,
 none,
 some ⟨.func,1,8,some [.nilFunc],false,false,true⟩,
 some ⟨.func,1,8,some [.nilFunc],false,false,true⟩,
 some ⟨.func,1,8,some [.nilFunc],false,false,true⟩,
 some ⟨.func,1,8,some [.nilFunc],false,false,true⟩,
 none,
 some ⟨.func,1,8,some [.nilFunc],false,false,true⟩,
 some ⟨.func,1,8,some [.nilFunc],false,false,true⟩,
 some ⟨.map 3 3,1,8,some [.map none],false,false,true⟩,
 some ⟨.func,1,8,some [.nilFunc],false,false,true⟩,
 some ⟨.func,1,8,some [.nilFunc],false,false,true⟩,
 none,
 some ⟨.func,1,8,some [.nilFunc],false,false,true⟩,
 some ⟨.func,1,8,some [.nilFunc],false,false,true⟩,
 some ⟨.func,1,8,some [.nilFunc],false,false,true⟩,
 some ⟨.func,1,8,some [.nilFunc],false,false,true⟩,
 some ⟨.func,1,8,some [.nilFunc],false,false,true⟩,
 none,
 some ⟨.func,1,8,some [.nilFunc],false,false,true⟩,
 none,
 some ⟨.func,1,8,some [.nilFunc],false,false,true⟩,
 some ⟨.struct [(0,3,false),(1,26,false),(2,27,false)],3,56,some [.int .i64 0, .slice none 0 0, .slice none 0 0],false,false,false⟩,
 some ⟨.struct [(0,3,false),(1,26,false),(2,27,false)],3,56,some [.int .i64 0, .slice none 0 0, .slice none 0 0],false,false,false⟩,
 some ⟨.func,1,8,some [.nilFunc],false,false,true⟩,
 some ⟨.func,1,8,some [.nilFunc],false,false,true⟩,
 some ⟨.slice 3,1,24,some [.slice none 0 0],false,false,true⟩,
 some ⟨.func,1,8,some [.nilFunc],false,false,true⟩,
 some ⟨.func,1,8,some [.nilFunc],false,false,true⟩,
 some ⟨.func,1,8,some [.nilFunc],false,false,true⟩,
 some ⟨.func,1,8,some [.nilFunc],false,false,true⟩,
 some ⟨.func,1,8,some [.nilFunc],false,false,true⟩,
 some ⟨.func,1,8,some [.nilFunc],false,false,true⟩,
 some ⟨.func,1,8,some [.nilFunc],false,false,true⟩,
 some ⟨.pointer 94,1,8,some [.pointer none],false,false,true⟩,
 some ⟨.struct [(0,92,false),(1,23,false)],2,32,some [.pointer none, .slice none 0 0],false,false,false⟩,
 some ⟨.struct [(0,92,false),(1,23,false)],2,32,some [.pointer none, .slice none 0 0],false,false,false⟩,
 none,
 none,
 none,
 some ⟨.func,1,8,some [.nilFunc],false,false,true⟩,
 some ⟨.func,1,8,some [.nilFunc],false,false,true⟩,
 some ⟨.func,1,8,some [.nilFunc],false,false,true⟩,
 some ⟨.func,1,8,some [.nilFunc],false,false,true⟩,
 some ⟨.func,1,8,some [.nilFunc],false,false,true⟩,
 some ⟨.func,1,8,some [.nilFunc],false,false,true⟩,
 some ⟨.func,1,8,some [.nilFunc],false,false,true⟩,
 some ⟨.slice 111,1,24,some [.slice none 0 0],false,false,true⟩,
 none,
 some ⟨.func,1,8,some [.nilFunc],false,false,true⟩,
 some ⟨.func,1,8,some [.nilFunc],false,false,true⟩,
 some ⟨.slice 84,1,24,some [.slice none 0 0],false,false,true⟩,
 some ⟨.struct [(0,3,false),(1,109,false)],2,32,some [.int .i64 0, .slice none 0 0],false,false,false⟩,
 some ⟨.struct [(0,3,false),(1,109,false)],2,32,some [.int .i64 0, .slice none 0 0],false,false,false⟩,
 some ⟨.func,1,8,some [.nilFunc],false,false,true⟩,
 some ⟨.array 2 5,2,2,some [.int .u8 0, .int .u8 0],false,false,false⟩,
 none,
 some ⟨.func,1,8,some [.nilFunc],false,false,true⟩,
 some ⟨.func,1,8,some [.nilFunc],false,false,true⟩,
 none,
 some ⟨.func,1,8,some [.nilFunc],false,false,true⟩,
 some ⟨.func,1,8,some [.nilFunc],false,false,true⟩,
 none,
 some ⟨.func,1,8,some [.nilFunc],false,false,true⟩,
 some ⟨.func,1,8,some [.nilFunc],false,false,true⟩,
 none,
 some ⟨.func,1,8,some [.nilFunc],false,false,true⟩,
 some ⟨.func,1,8,some [.nilFunc],false,false,true⟩,
 some ⟨.func,1,8,some [.nilFunc],false,false,true⟩,
 some ⟨.func,1,8,some [.nilFunc],false,false,true⟩,
 some ⟨.struct [(0,4,false),(1,3,false),(2,3,false),(3,3,false)],4,32,some [.bool false, .int .i64 0, .int .i64 0, .int .i64 0],false,false,false⟩,
 some ⟨.struct [(0,4,false),(1,3,false),(2,3,false),(3,3,false)],4,32,some [.bool false, .int .i64 0, .int .i64 0, .int .i64 0],false,false,false⟩,
 some ⟨.func,1,8,some [.nilFunc],false,false,true⟩,
 some ⟨.func,1,8,some [.nilFunc],false,false,true⟩,
 some ⟨.func,1,8,some [.nilFunc],false,false,true⟩,
 some ⟨.func,1,8,some [.nilFunc],false,false,true⟩,
 some ⟨.func,1,8,some [.nilFunc],false,false,true⟩,
 some ⟨.func,1,8,some [.nilFunc],false,false,true⟩,
 some ⟨.func,1,8,some [.nilFunc],false,false,true⟩,
 some ⟨.func,1,8,some [.nilFunc],false,false,true⟩,
 none,
 some ⟨.func,1,8,some [.nilFunc],false,false,true⟩,
 some ⟨.func,1,8,some [.nilFunc],false,false,true⟩,
 some ⟨.func,1,8,some [.nilFunc],false,false,true⟩,
 some ⟨.func,1,8,some [.nilFunc],false,false,true⟩,
 some ⟨.func,1,8,some [.nilFunc],false,false,true⟩,
 none,
 some ⟨.func,1,8,some [.nilFunc],false,false,true⟩,
 some ⟨.func,1,8,some [.nilFunc],false,false,true⟩,
 some ⟨.func,1,8,some [.nilFunc],false,false,true⟩,
 some ⟨.func,1,8,some [.nilFunc],false,false,true⟩,
 some ⟨.func,1,8,some [.nilFunc],false,false,true⟩,
 some ⟨.func,1,8,some [.nilFunc],false,false,true⟩,
 some ⟨.func,1,8,some [.nilFunc],false,false,true⟩,
 some ⟨.func,1,8,some [.nilFunc],false,false,true⟩,
 some ⟨.pointer 5,1,8,some [.pointer none],false,false,true⟩,
 some ⟨.func,1,8,some [.nilFunc],false,false,true⟩,
 some ⟨.func,1,8,some [.nilFunc],false,false,true⟩,
 none,
 some ⟨.func,1,8,some [.nilFunc],false,false,true⟩,
 some ⟨.func,1,8,some [.nilFunc],false,false,true⟩,
 none,
 some ⟨.func,1,8,some [.nilFunc],false,false,true⟩,
 some ⟨.func,1,8,some [.nilFunc],false,false,true⟩,
 some ⟨.func,1,8,some [.nilFunc],false,false,true⟩,
 some ⟨.func,1,8,some [.nilFunc],false,false,true⟩,
 some ⟨.func,1,8,some [.nilFunc],false,false,true⟩,
 some ⟨.func,1,8,some [.nilFunc],false,false,true⟩,
 some ⟨.func,1,8,some [.nilFunc],false,false,true⟩,
 some ⟨.func,1,8,some [.nilFunc],false,false,true⟩,
 none,
 some ⟨.func,1,8,some [.nilFunc],false,false,true⟩,
 some ⟨.func,1,8,some [.nilFunc],false,false,true⟩,
 some ⟨.func,1,8,some [.nilFunc],false,false,true⟩,
 some ⟨.func,1,8,some [.nilFunc],false,false,true⟩,
 some ⟨.func,1,8,some [.nilFunc],false,false,true⟩,
 some ⟨.func,1,8,some [.nilFunc],false,false,true⟩,
 some ⟨.func,1,8,some [.nilFunc],false,false,true⟩,
 some ⟨.array 32 5,32,32,some [.int .u8 0, .int .u8 0, .int .u8 0, .int .u8 0, .int .u8 0, .int .u8 0, .int .u8 0, .int .u8 0, .int .u8 0, .int .u8 0, .int .u8 0, .int .u8 0, .int .u8 0, .int .u8 0, .int .u8 0, .int .u8 0, .int .u8 0, .int .u8 0, .int .u8 0, .int .u8 0, .int .u8 0, .int .u8 0, .int .u8 0, .int .u8 0, .int .u8 0, .int .u8 0, .int .u8 0, .int .u8 0, .int .u8 0, .int .u8 0, .int .u8 0, .int .u8 0],false,false,false⟩,
 some ⟨.int .u64,1,8,some [.int .u64 0],false,false,true⟩,
 none,
 some ⟨.func,1,8,some [.nilFunc],false,false,true⟩,
 some ⟨.func,1,8,some [.nilFunc],false,false,true⟩,
 some ⟨.func,1,8,some [.nilFunc],false,false,true⟩,
 some ⟨.int .u64,1,8,some [.int .u64 0],false,false,true⟩,
 some ⟨.func,1,8,some [.nilFunc],false,false,true⟩,
 some ⟨.func,1,8,some [.nilFunc],false,false,true⟩,
 some ⟨.func,1,8,some [.nilFunc],false,false,true⟩,
 some ⟨.func,1,8,some [.nilFunc],false,false,true⟩,
 some ⟨.func,1,8,some [.nilFunc],false,false,true⟩,
 some ⟨.func,1,8,some [.nilFunc],false,false,true⟩,
 some ⟨.func,1,8,some [.nilFunc],false,false,true⟩,
 some ⟨.func,1,8,some [.nilFunc],false,false,true⟩,
 some ⟨.func,1,8,some [.nilFunc],false,false,true⟩,
 none,
 some ⟨.func,1,8,some [.nilFunc],false,false,true⟩,
 some ⟨.map 46 46,1,8,some [.map none],false,false,true⟩,
 some ⟨.func,1,8,some [.nilFunc],false,false,true⟩,
 some ⟨.func,1,8,some [.nilFunc],false,false,true⟩,
 some ⟨.func,1,8,some [.nilFunc],false,false,true⟩,
 some ⟨.func,1,8,some [.nilFunc],false,false,true⟩,
 some ⟨.func,1,8,some [.nilFunc],false,false,true⟩,
 some ⟨.func,1,8,some [.nilFunc],false,false,true⟩,
 some ⟨.func,1,8,some [.nilFunc],false,false,true⟩,
 some ⟨.func,1,8,some [.nilFunc],false,false,true⟩,
 some ⟨.func,1,8,some [.nilFunc],false,false,true⟩,
 some ⟨.func,1,8,some [.nilFunc],false,false,true⟩,
 some ⟨.struct [(0,28,false)],1,24,some [.slice none 0 0],false,false,false⟩,
 some ⟨.struct [(0,28,false)],1,24,some [.slice none 0 0],false,false,false⟩,
 some ⟨.func,1,8,some [.nilFunc],false,false,true⟩,
 some ⟨.func,1,8,some [.nilFunc],false,false,true⟩,
 none,
 some ⟨.func,1,8,some [.nilFunc],false,false,true⟩,
 some ⟨.func,1,8,some [.nilFunc],false,false,true⟩,
 some ⟨.func,1,8,some [.nilFunc],false,false,true⟩,
 some ⟨.func,1,8,some [.nilFunc],false,false,true⟩,
 some ⟨.func,1,8,some [.nilFunc],false,false,true⟩,
 some ⟨.func,1,8,some [.nilFunc],false,false,true⟩,
 none,
 some ⟨.func,1,8,some [.nilFunc],false,false,true⟩,
 some ⟨.func,1,8,some [.nilFunc],false,false,true⟩,
 some ⟨.func,1,8,some [.nilFunc],false,false,true⟩,
 some ⟨.func,1,8,some [.nilFunc],false,false,true⟩,
 some ⟨.func,1,8,some [.nilFunc],false,false,true⟩,
 some ⟨.func,1,8,some [.nilFunc],false,false,true⟩,
 some ⟨.func,1,8,some [.nilFunc],false,false,true⟩,
 some ⟨.func,1,8,some [.nilFunc],false,false,true⟩,
 some ⟨.func,1,8,some [.nilFunc],false,false,true⟩,
 some ⟨.func,1,8,some [.nilFunc],false,false,true⟩,
 some ⟨.func,1,8,some [.nilFunc],false,false,true⟩,
 some ⟨.func,1,8,some [.nilFunc],false,false,true⟩,
 some ⟨.func,1,8,some [.nilFunc],false,false,true⟩,
 some ⟨.func,1,8,some [.nilFunc],false,false,true⟩,
 some ⟨.func,1,8,some [.nilFunc],false,false,true⟩,
 some ⟨.func,1,8,some [.nilFunc],false,false,true⟩,
 some ⟨.func,1,8,some [.nilFunc],false,false,true⟩,
 some ⟨.func,1,8,some [.nilFunc],false,false,true⟩,
 some ⟨.func,1,8,some [.nilFunc],false,false,true⟩,
 some ⟨.func,1,8,some [.nilFunc],false,false,true⟩,
 some ⟨.func,1,8,some [.nilFunc],false,false,true⟩,
 some ⟨.func,1,8,some [.nilFunc],false,false,true⟩,
 some ⟨.pointer 206,1,8,some [.pointer none],false,false,true⟩,
 some ⟨.func,1,8,some [.nilFunc],false,false,true⟩,
 some ⟨.func,1,8,some [.nilFunc],false,false,true⟩,
 some ⟨.int .i64,1,8,some [.int .i64 0],false,false,true⟩,
 none,
 some ⟨.func,1,8,some [.nilFunc],false,false,true⟩,
 some ⟨.func,1,8,some [.nilFunc],false,false,true⟩,
 some ⟨.func,1,8,some [.nilFunc],false,false,true⟩,
 none,
 some ⟨.func,1,8,some [.nilFunc],false,false,true⟩,
 some ⟨.func,1,8,some [.nilFunc],false,false,true⟩,
 some ⟨.func,1,8,some [.nilFunc],false,false,true⟩,
 some ⟨.func,1,8,some [.nilFunc],false,false,true⟩,
 some ⟨.func,1,8,some [.nilFunc],false,false,true⟩,
 some ⟨.func,1,8,some [.nilFunc],false,false,true⟩,
 some ⟨.func,1,8,some [.nilFunc],false,false,true⟩,
 some ⟨.func,1,8,some [.nilFunc],false,false,true⟩,
 some ⟨.func,1,8,some [.nilFunc],false,false,true⟩,
 some ⟨.slice 26,1,24,some [.slice none 0 0],false,false,true⟩,
 some ⟨.int .u64,1,8,some [.int .u64 0],false,false,true⟩,
 some ⟨.func,1,8,some [.nilFunc],false,false,true⟩,
 some ⟨.func,1,8,some [.nilFunc],false,false,true⟩,
 some ⟨.func,1,8,some [.nilFunc],false,false,true⟩,
 some ⟨.pointer 3,1,8,some [.pointer none],false,false,true⟩,
 some ⟨.func,1,8,some [.nilFunc],false,false,true⟩,
 some ⟨.func,1,8,some [.nilFunc],false,false,true⟩,
 some ⟨.func,1,8,some [.nilFunc],false,false,true⟩,
 some ⟨.pointer 258,1,8,some [.pointer none],false,false,true⟩,
 none,
 some ⟨.func,1,8,some [.nilFunc],false,false,true⟩,
 some ⟨.func,1,8,some [.nilFunc],false,false,true⟩,
 none,
 none,
 some ⟨.array 0 16,0,0,some [],false,false,false⟩,
 none,
 none,
 some ⟨.func,1,8,some [.nilFunc],false,false,true⟩,
 some ⟨.int .u8,1,1,some [.int .u8 0],false,false,true⟩,
 some ⟨.int .u8,1,1,some [.int .u8 0],false,false,true⟩,
 some ⟨.func,1,8,some [.nilFunc],false,false,true⟩,
 some ⟨.int .i32,1,4,some [.int .i32 0],false,false,true⟩,
 some ⟨.int .i32,1,4,some [.int .i32 0],false,false,true⟩,
 none,
 none]
def a3j:List (Option TI) → Nat → Option TI
 | [],_=>none
 | x :: _,0=>x
 | _ :: r,n + 1=>a3j r n
def bm:Env:=a3j ab1
def aiu (P:Program):List (Option TI) → Nat → Prop
 | [],_=>True
 | none :: r,n=>aiu P r (n + 1)
 | some i :: r,n=>aa P n = some i ∧ aiu P r (n + 1)
theorem a0a {P:Program}:∀ {l:List (Option TI)} {n:Nat},aiu P l n → ∀ t i,a3j l t = some i → aa P (n + t) = some i
 | [],_,_,t,i,h=>by simp [a3j] at h
 | none :: r,n,hf,0,i,h=>by simp [a3j] at h
 | some x :: r,n,hf,0,i,h=>by simp only [a3j,Option.some.injEq] at h;subst h;exact hf.1
 | none :: r,n,hf,t + 1,i,h=>by have:=a0a (l:=r) (n:=n + 1) hf t i h;rwa [show n + (t + 1) = n + 1 + t by omega]
 | some x :: r,n,hf,t + 1,i,h=>by have:=a0a (l:=r) (n:=n + 1) hf.2 t i h;rwa [show n + (t + 1) = n + 1 + t by omega]
theorem b1r:aa Tryz.prog 1 = some ⟨.func,1,8,some [.nilFunc],false,false,true⟩:=by kernel_rfl
theorem b3n:aa Tryz.prog 2 = some ⟨.int .i64,1,8,some [.int .i64 0],false,false,true⟩:=by kernel_rfl
theorem b26:aa Tryz.prog 3 = some ⟨.int .i64,1,8,some [.int .i64 0],false,false,true⟩:=by kernel_rfl
theorem b2z:aa Tryz.prog 4 = some ⟨.bool,1,1,some [.bool false],false,false,true⟩:=by kernel_rfl
theorem b2y:aa Tryz.prog 5 = some ⟨.int .u8,1,1,some [.int .u8 0],false,false,true⟩:=by kernel_rfl
theorem b2p:aa Tryz.prog 6 = some ⟨.int .u8,1,1,some [.int .u8 0],false,false,true⟩:=by kernel_rfl
theorem b0l:aa Tryz.prog 7 = some ⟨.struct [(0,2,false),(1,3,false),(2,4,false),(3,6,false)],4,24,some [.int .i64 0, .int .i64 0, .bool false, .int .u8 0],false,false,false⟩:=by kernel_rfl
theorem b3s:aa Tryz.prog 8 = some ⟨.struct [(0,2,false),(1,3,false),(2,4,false),(3,6,false)],4,24,some [.int .i64 0, .int .i64 0, .bool false, .int .u8 0],false,false,false⟩:=by kernel_rfl
theorem b0w:aa Tryz.prog 9 = some ⟨.string,1,16,some [.string ⟨#[]⟩],false,false,true⟩:=by kernel_rfl
theorem auf:aa Tryz.prog 10 = some ⟨.string,1,16,some [.string ⟨#[]⟩],false,false,true⟩:=by kernel_rfl
theorem awk:aa Tryz.prog 11 = some ⟨.string,1,16,some [.string ⟨#[]⟩],false,false,true⟩:=by kernel_rfl
theorem avf:aa Tryz.prog 12 = some ⟨.int .u64,1,8,some [.int .u64 0],false,false,true⟩:=by kernel_rfl
theorem avn:aa Tryz.prog 15 = some ⟨.pointer 271,1,8,some [.pointer none],false,false,true⟩:=by kernel_rfl
theorem az2:aa Tryz.prog 16 = some ⟨.pointer 274,1,8,some [.pointer none],false,false,true⟩:=by kernel_rfl
theorem av7:aa Tryz.prog 17 = some ⟨.pointer 282,1,8,some [.pointer none],false,false,true⟩:=by kernel_rfl
theorem atk:aa Tryz.prog 21 = some ⟨.int .i32,1,4,some [.int .i32 0],false,false,true⟩:=by kernel_rfl
theorem auc:aa Tryz.prog 22 = some ⟨.slice 113,1,24,some [.slice none 0 0],false,false,true⟩:=by kernel_rfl
theorem ayi:aa Tryz.prog 23 = some ⟨.slice 5,1,24,some [.slice none 0 0],false,false,true⟩:=by kernel_rfl
theorem awn:aa Tryz.prog 24 = some ⟨.struct [(0,5,false),(1,22,false),(2,22,false),(3,23,false)],4,80,some [.int .u8 0, .slice none 0 0, .slice none 0 0, .slice none 0 0],false,false,false⟩:=by kernel_rfl
theorem av2:aa Tryz.prog 25 = some ⟨.struct [(0,5,false),(1,22,false),(2,22,false),(3,23,false)],4,80,some [.int .u8 0, .slice none 0 0, .slice none 0 0, .slice none 0 0],false,false,false⟩:=by kernel_rfl
theorem awr:aa Tryz.prog 26 = some ⟨.slice 48,1,24,some [.slice none 0 0],false,false,true⟩:=by kernel_rfl
theorem axg:aa Tryz.prog 27 = some ⟨.slice 49,1,24,some [.slice none 0 0],false,false,true⟩:=by kernel_rfl
theorem aws:aa Tryz.prog 28 = some ⟨.slice 46,1,24,some [.slice none 0 0],false,false,true⟩:=by kernel_rfl
theorem avi:aa Tryz.prog 30 = some ⟨.func,1,8,some [.nilFunc],false,false,true⟩:=by kernel_rfl
theorem avs:aa Tryz.prog 31 = some ⟨.func,1,8,some [.nilFunc],false,false,true⟩:=by kernel_rfl
theorem awj:aa Tryz.prog 32 = some ⟨.slice 129,1,24,some [.slice none 0 0],false,false,true⟩:=by kernel_rfl
theorem axn:aa Tryz.prog 33 = some ⟨.struct [(0,28,false),(1,3,false),(2,32,false)],3,56,some [.slice none 0 0, .int .i64 0, .slice none 0 0],false,false,false⟩:=by kernel_rfl
theorem awz:aa Tryz.prog 34 = some ⟨.struct [(0,28,false),(1,3,false),(2,32,false)],3,56,some [.slice none 0 0, .int .i64 0, .slice none 0 0],false,false,false⟩:=by kernel_rfl
theorem atj:aa Tryz.prog 35 = some ⟨.int .i64,1,8,some [.int .i64 0],false,false,true⟩:=by kernel_rfl
theorem ato:aa Tryz.prog 37 = some ⟨.func,1,8,some [.nilFunc],false,false,true⟩:=by kernel_rfl
theorem auy:aa Tryz.prog 38 = some ⟨.func,1,8,some [.nilFunc],false,false,true⟩:=by kernel_rfl
theorem auo:aa Tryz.prog 39 = some ⟨.func,1,8,some [.nilFunc],false,false,true⟩:=by kernel_rfl
theorem awi:aa Tryz.prog 40 = some ⟨.func,1,8,some [.nilFunc],false,false,true⟩:=by kernel_rfl
theorem awm:aa Tryz.prog 41 = some ⟨.func,1,8,some [.nilFunc],false,false,true⟩:=by kernel_rfl
theorem avg:aa Tryz.prog 42 = some ⟨.slice 45,1,24,some [.slice none 0 0],false,false,true⟩:=by kernel_rfl
theorem atq:aa Tryz.prog 43 = some ⟨.int .u32,1,4,some [.int .u32 0],false,false,true⟩:=by kernel_rfl
theorem ax7:aa Tryz.prog 44 = some ⟨.struct [(0,43,false),(1,43,false)],2,8,some [.int .u32 0, .int .u32 0],false,false,false⟩:=by kernel_rfl
theorem aw4:aa Tryz.prog 45 = some ⟨.struct [(0,43,false),(1,43,false)],2,8,some [.int .u32 0, .int .u32 0],false,false,false⟩:=by kernel_rfl
theorem ave:aa Tryz.prog 46 = some ⟨.int .u32,1,4,some [.int .u32 0],false,false,true⟩:=by kernel_rfl
theorem av4:aa Tryz.prog 47 = some ⟨.struct [(0,46,false),(1,46,false)],2,8,some [.int .u32 0, .int .u32 0],false,false,false⟩:=by kernel_rfl
theorem axs:aa Tryz.prog 48 = some ⟨.struct [(0,46,false),(1,46,false)],2,8,some [.int .u32 0, .int .u32 0],false,false,false⟩:=by kernel_rfl
theorem ax8:aa Tryz.prog 49 = some ⟨.struct [(0,46,false),(1,46,false)],2,8,some [.int .u32 0, .int .u32 0],false,false,false⟩:=by kernel_rfl
theorem avp:aa Tryz.prog 50 = some ⟨.func,1,8,some [.nilFunc],false,false,true⟩:=by kernel_rfl
theorem axr:aa Tryz.prog 52 = some ⟨.func,1,8,some [.nilFunc],false,false,true⟩:=by kernel_rfl
theorem axc:aa Tryz.prog 53 = some ⟨.func,1,8,some [.nilFunc],false,false,true⟩:=by kernel_rfl
theorem axt:aa Tryz.prog 54 = some ⟨.func,1,8,some [.nilFunc],false,false,true⟩:=by kernel_rfl
theorem axx:aa Tryz.prog 55 = some ⟨.slice 28,1,24,some [.slice none 0 0],false,false,true⟩:=by kernel_rfl
theorem auq:aa Tryz.prog 56 = some ⟨.func,1,8,some [.nilFunc],false,false,true⟩:=by kernel_rfl
theorem axl:aa Tryz.prog 57 = some ⟨.slice 9,1,24,some [.slice none 0 0],false,false,true⟩:=by kernel_rfl
theorem axh:aa Tryz.prog 58 = some ⟨.func,1,8,some [.nilFunc],false,false,true⟩:=by kernel_rfl
theorem axk:aa Tryz.prog 60 = some ⟨.func,1,8,some [.nilFunc],false,false,true⟩:=by kernel_rfl
theorem atm:aa Tryz.prog 61 = some ⟨.func,1,8,some [.nilFunc],false,false,true⟩:=by kernel_rfl
theorem aux:aa Tryz.prog 62 = some ⟨.func,1,8,some [.nilFunc],false,false,true⟩:=by kernel_rfl
theorem atl:aa Tryz.prog 63 = some ⟨.func,1,8,some [.nilFunc],false,false,true⟩:=by kernel_rfl
theorem atz:aa Tryz.prog 65 = some ⟨.func,1,8,some [.nilFunc],false,false,true⟩:=by kernel_rfl
theorem ayr:aa Tryz.prog 66 = some ⟨.func,1,8,some [.nilFunc],false,false,true⟩:=by kernel_rfl
theorem awo:aa Tryz.prog 67 = some ⟨.map 3 3,1,8,some [.map none],false,false,true⟩:=by kernel_rfl
theorem awb:aa Tryz.prog 68 = some ⟨.func,1,8,some [.nilFunc],false,false,true⟩:=by kernel_rfl
theorem av1:aa Tryz.prog 69 = some ⟨.func,1,8,some [.nilFunc],false,false,true⟩:=by kernel_rfl
theorem ay4:aa Tryz.prog 71 = some ⟨.func,1,8,some [.nilFunc],false,false,true⟩:=by kernel_rfl
theorem axo:aa Tryz.prog 72 = some ⟨.func,1,8,some [.nilFunc],false,false,true⟩:=by kernel_rfl
theorem ay3:aa Tryz.prog 73 = some ⟨.func,1,8,some [.nilFunc],false,false,true⟩:=by kernel_rfl
theorem av0:aa Tryz.prog 74 = some ⟨.func,1,8,some [.nilFunc],false,false,true⟩:=by kernel_rfl
theorem aty:aa Tryz.prog 75 = some ⟨.func,1,8,some [.nilFunc],false,false,true⟩:=by kernel_rfl
theorem aus:aa Tryz.prog 77 = some ⟨.func,1,8,some [.nilFunc],false,false,true⟩:=by kernel_rfl
theorem awe:aa Tryz.prog 79 = some ⟨.func,1,8,some [.nilFunc],false,false,true⟩:=by kernel_rfl
theorem ayt:aa Tryz.prog 80 = some ⟨.struct [(0,3,false),(1,26,false),(2,27,false)],3,56,some [.int .i64 0, .slice none 0 0, .slice none 0 0],false,false,false⟩:=by kernel_rfl
theorem aw7:aa Tryz.prog 81 = some ⟨.struct [(0,3,false),(1,26,false),(2,27,false)],3,56,some [.int .i64 0, .slice none 0 0, .slice none 0 0],false,false,false⟩:=by kernel_rfl
theorem ayc:aa Tryz.prog 82 = some ⟨.func,1,8,some [.nilFunc],false,false,true⟩:=by kernel_rfl
theorem aur:aa Tryz.prog 83 = some ⟨.func,1,8,some [.nilFunc],false,false,true⟩:=by kernel_rfl
theorem aw1:aa Tryz.prog 84 = some ⟨.slice 3,1,24,some [.slice none 0 0],false,false,true⟩:=by kernel_rfl
theorem av5:aa Tryz.prog 85 = some ⟨.func,1,8,some [.nilFunc],false,false,true⟩:=by kernel_rfl
theorem ay5:aa Tryz.prog 86 = some ⟨.func,1,8,some [.nilFunc],false,false,true⟩:=by kernel_rfl
theorem ayb:aa Tryz.prog 87 = some ⟨.func,1,8,some [.nilFunc],false,false,true⟩:=by kernel_rfl
theorem au9:aa Tryz.prog 88 = some ⟨.func,1,8,some [.nilFunc],false,false,true⟩:=by kernel_rfl
theorem au1:aa Tryz.prog 89 = some ⟨.func,1,8,some [.nilFunc],false,false,true⟩:=by kernel_rfl
theorem ayz:aa Tryz.prog 90 = some ⟨.func,1,8,some [.nilFunc],false,false,true⟩:=by kernel_rfl
theorem aw8:aa Tryz.prog 91 = some ⟨.func,1,8,some [.nilFunc],false,false,true⟩:=by kernel_rfl
theorem ayl:aa Tryz.prog 92 = some ⟨.pointer 94,1,8,some [.pointer none],false,false,true⟩:=by kernel_rfl
theorem ax4:aa Tryz.prog 93 = some ⟨.struct [(0,92,false),(1,23,false)],2,32,some [.pointer none, .slice none 0 0],false,false,false⟩:=by kernel_rfl
theorem atp:aa Tryz.prog 94 = some ⟨.struct [(0,92,false),(1,23,false)],2,32,some [.pointer none, .slice none 0 0],false,false,false⟩:=by kernel_rfl
theorem ayj:aa Tryz.prog 98 = some ⟨.func,1,8,some [.nilFunc],false,false,true⟩:=by kernel_rfl
theorem ayw:aa Tryz.prog 99 = some ⟨.func,1,8,some [.nilFunc],false,false,true⟩:=by kernel_rfl
theorem an0:aa Tryz.prog 100 = some ⟨.func,1,8,some [.nilFunc],false,false,true⟩:=by kernel_rfl
theorem ao8:aa Tryz.prog 101 = some ⟨.func,1,8,some [.nilFunc],false,false,true⟩:=by kernel_rfl
theorem arq:aa Tryz.prog 102 = some ⟨.func,1,8,some [.nilFunc],false,false,true⟩:=by kernel_rfl
theorem ap7:aa Tryz.prog 103 = some ⟨.func,1,8,some [.nilFunc],false,false,true⟩:=by kernel_rfl
theorem asq:aa Tryz.prog 104 = some ⟨.func,1,8,some [.nilFunc],false,false,true⟩:=by kernel_rfl
theorem ar4:aa Tryz.prog 105 = some ⟨.slice 111,1,24,some [.slice none 0 0],false,false,true⟩:=by kernel_rfl
theorem aqh:aa Tryz.prog 107 = some ⟨.func,1,8,some [.nilFunc],false,false,true⟩:=by kernel_rfl
theorem aru:aa Tryz.prog 108 = some ⟨.func,1,8,some [.nilFunc],false,false,true⟩:=by kernel_rfl
theorem as3:aa Tryz.prog 109 = some ⟨.slice 84,1,24,some [.slice none 0 0],false,false,true⟩:=by kernel_rfl
theorem apq:aa Tryz.prog 110 = some ⟨.struct [(0,3,false),(1,109,false)],2,32,some [.int .i64 0, .slice none 0 0],false,false,false⟩:=by kernel_rfl
theorem ar1:aa Tryz.prog 111 = some ⟨.struct [(0,3,false),(1,109,false)],2,32,some [.int .i64 0, .slice none 0 0],false,false,false⟩:=by kernel_rfl
theorem asc:aa Tryz.prog 112 = some ⟨.func,1,8,some [.nilFunc],false,false,true⟩:=by kernel_rfl
theorem amz:aa Tryz.prog 113 = some ⟨.array 2 5,2,2,some [.int .u8 0, .int .u8 0],false,false,false⟩:=by kernel_rfl
theorem at0:aa Tryz.prog 115 = some ⟨.func,1,8,some [.nilFunc],false,false,true⟩:=by kernel_rfl
theorem ar8:aa Tryz.prog 116 = some ⟨.func,1,8,some [.nilFunc],false,false,true⟩:=by kernel_rfl
theorem atd:aa Tryz.prog 118 = some ⟨.func,1,8,some [.nilFunc],false,false,true⟩:=by kernel_rfl
theorem al5:aa Tryz.prog 119 = some ⟨.func,1,8,some [.nilFunc],false,false,true⟩:=by kernel_rfl
theorem asw:aa Tryz.prog 121 = some ⟨.func,1,8,some [.nilFunc],false,false,true⟩:=by kernel_rfl
theorem alf:aa Tryz.prog 122 = some ⟨.func,1,8,some [.nilFunc],false,false,true⟩:=by kernel_rfl
theorem anp:aa Tryz.prog 124 = some ⟨.func,1,8,some [.nilFunc],false,false,true⟩:=by kernel_rfl
theorem amp:aa Tryz.prog 125 = some ⟨.func,1,8,some [.nilFunc],false,false,true⟩:=by kernel_rfl
theorem amd:aa Tryz.prog 126 = some ⟨.func,1,8,some [.nilFunc],false,false,true⟩:=by kernel_rfl
theorem amr:aa Tryz.prog 127 = some ⟨.func,1,8,some [.nilFunc],false,false,true⟩:=by kernel_rfl
theorem apx:aa Tryz.prog 128 = some ⟨.struct [(0,4,false),(1,3,false),(2,3,false),(3,3,false)],4,32,some [.bool false, .int .i64 0, .int .i64 0, .int .i64 0],false,false,false⟩:=by kernel_rfl
theorem amy:aa Tryz.prog 129 = some ⟨.struct [(0,4,false),(1,3,false),(2,3,false),(3,3,false)],4,32,some [.bool false, .int .i64 0, .int .i64 0, .int .i64 0],false,false,false⟩:=by kernel_rfl
theorem arz:aa Tryz.prog 130 = some ⟨.func,1,8,some [.nilFunc],false,false,true⟩:=by kernel_rfl
theorem ast:aa Tryz.prog 131 = some ⟨.func,1,8,some [.nilFunc],false,false,true⟩:=by kernel_rfl
theorem am2:aa Tryz.prog 132 = some ⟨.func,1,8,some [.nilFunc],false,false,true⟩:=by kernel_rfl
theorem asj:aa Tryz.prog 133 = some ⟨.func,1,8,some [.nilFunc],false,false,true⟩:=by kernel_rfl
theorem an4:aa Tryz.prog 134 = some ⟨.func,1,8,some [.nilFunc],false,false,true⟩:=by kernel_rfl
theorem apr:aa Tryz.prog 135 = some ⟨.func,1,8,some [.nilFunc],false,false,true⟩:=by kernel_rfl
theorem ary:aa Tryz.prog 136 = some ⟨.func,1,8,some [.nilFunc],false,false,true⟩:=by kernel_rfl
theorem alu:aa Tryz.prog 137 = some ⟨.func,1,8,some [.nilFunc],false,false,true⟩:=by kernel_rfl
theorem anq:aa Tryz.prog 139 = some ⟨.func,1,8,some [.nilFunc],false,false,true⟩:=by kernel_rfl
theorem ar7:aa Tryz.prog 140 = some ⟨.func,1,8,some [.nilFunc],false,false,true⟩:=by kernel_rfl
theorem alz:aa Tryz.prog 141 = some ⟨.func,1,8,some [.nilFunc],false,false,true⟩:=by kernel_rfl
theorem aoi:aa Tryz.prog 142 = some ⟨.func,1,8,some [.nilFunc],false,false,true⟩:=by kernel_rfl
theorem ao9:aa Tryz.prog 143 = some ⟨.func,1,8,some [.nilFunc],false,false,true⟩:=by kernel_rfl
theorem asy:aa Tryz.prog 145 = some ⟨.func,1,8,some [.nilFunc],false,false,true⟩:=by kernel_rfl
theorem alc:aa Tryz.prog 146 = some ⟨.func,1,8,some [.nilFunc],false,false,true⟩:=by kernel_rfl
theorem apt:aa Tryz.prog 147 = some ⟨.func,1,8,some [.nilFunc],false,false,true⟩:=by kernel_rfl
theorem ala:aa Tryz.prog 148 = some ⟨.func,1,8,some [.nilFunc],false,false,true⟩:=by kernel_rfl
theorem ap4:aa Tryz.prog 149 = some ⟨.func,1,8,some [.nilFunc],false,false,true⟩:=by kernel_rfl
theorem aq8:aa Tryz.prog 150 = some ⟨.func,1,8,some [.nilFunc],false,false,true⟩:=by kernel_rfl
theorem al9:aa Tryz.prog 151 = some ⟨.func,1,8,some [.nilFunc],false,false,true⟩:=by kernel_rfl
theorem amw:aa Tryz.prog 152 = some ⟨.func,1,8,some [.nilFunc],false,false,true⟩:=by kernel_rfl
theorem ar0:aa Tryz.prog 153 = some ⟨.pointer 5,1,8,some [.pointer none],false,false,true⟩:=by kernel_rfl
theorem arh:aa Tryz.prog 154 = some ⟨.func,1,8,some [.nilFunc],false,false,true⟩:=by kernel_rfl
theorem aq1:aa Tryz.prog 155 = some ⟨.func,1,8,some [.nilFunc],false,false,true⟩:=by kernel_rfl
theorem ar6:aa Tryz.prog 157 = some ⟨.func,1,8,some [.nilFunc],false,false,true⟩:=by kernel_rfl
theorem ank:aa Tryz.prog 158 = some ⟨.func,1,8,some [.nilFunc],false,false,true⟩:=by kernel_rfl
theorem ani:aa Tryz.prog 160 = some ⟨.func,1,8,some [.nilFunc],false,false,true⟩:=by kernel_rfl
theorem aor:aa Tryz.prog 161 = some ⟨.func,1,8,some [.nilFunc],false,false,true⟩:=by kernel_rfl
theorem aom:aa Tryz.prog 162 = some ⟨.func,1,8,some [.nilFunc],false,false,true⟩:=by kernel_rfl
theorem amc:aa Tryz.prog 163 = some ⟨.func,1,8,some [.nilFunc],false,false,true⟩:=by kernel_rfl
theorem ap0:aa Tryz.prog 164 = some ⟨.func,1,8,some [.nilFunc],false,false,true⟩:=by kernel_rfl
theorem apg:aa Tryz.prog 165 = some ⟨.func,1,8,some [.nilFunc],false,false,true⟩:=by kernel_rfl
theorem aqj:aa Tryz.prog 166 = some ⟨.func,1,8,some [.nilFunc],false,false,true⟩:=by kernel_rfl
theorem amk:aa Tryz.prog 167 = some ⟨.func,1,8,some [.nilFunc],false,false,true⟩:=by kernel_rfl
theorem as7:aa Tryz.prog 169 = some ⟨.func,1,8,some [.nilFunc],false,false,true⟩:=by kernel_rfl
theorem ass:aa Tryz.prog 170 = some ⟨.func,1,8,some [.nilFunc],false,false,true⟩:=by kernel_rfl
theorem aml:aa Tryz.prog 171 = some ⟨.func,1,8,some [.nilFunc],false,false,true⟩:=by kernel_rfl
theorem ang:aa Tryz.prog 172 = some ⟨.func,1,8,some [.nilFunc],false,false,true⟩:=by kernel_rfl
theorem arp:aa Tryz.prog 173 = some ⟨.func,1,8,some [.nilFunc],false,false,true⟩:=by kernel_rfl
theorem amg:aa Tryz.prog 174 = some ⟨.func,1,8,some [.nilFunc],false,false,true⟩:=by kernel_rfl
theorem aoy:aa Tryz.prog 175 = some ⟨.func,1,8,some [.nilFunc],false,false,true⟩:=by kernel_rfl
theorem at7:aa Tryz.prog 176 = some ⟨.array 32 5,32,32,some [.int .u8 0, .int .u8 0, .int .u8 0, .int .u8 0, .int .u8 0, .int .u8 0, .int .u8 0, .int .u8 0, .int .u8 0, .int .u8 0, .int .u8 0, .int .u8 0, .int .u8 0, .int .u8 0, .int .u8 0, .int .u8 0, .int .u8 0, .int .u8 0, .int .u8 0, .int .u8 0, .int .u8 0, .int .u8 0, .int .u8 0, .int .u8 0, .int .u8 0, .int .u8 0, .int .u8 0, .int .u8 0, .int .u8 0, .int .u8 0, .int .u8 0, .int .u8 0],false,false,false⟩:=by kernel_rfl
theorem ams:aa Tryz.prog 177 = some ⟨.int .u64,1,8,some [.int .u64 0],false,false,true⟩:=by kernel_rfl
theorem asg:aa Tryz.prog 179 = some ⟨.func,1,8,some [.nilFunc],false,false,true⟩:=by kernel_rfl
theorem aqs:aa Tryz.prog 180 = some ⟨.func,1,8,some [.nilFunc],false,false,true⟩:=by kernel_rfl
theorem aq6:aa Tryz.prog 181 = some ⟨.func,1,8,some [.nilFunc],false,false,true⟩:=by kernel_rfl
theorem apf:aa Tryz.prog 182 = some ⟨.int .u64,1,8,some [.int .u64 0],false,false,true⟩:=by kernel_rfl
theorem anl:aa Tryz.prog 183 = some ⟨.func,1,8,some [.nilFunc],false,false,true⟩:=by kernel_rfl
theorem al7:aa Tryz.prog 184 = some ⟨.func,1,8,some [.nilFunc],false,false,true⟩:=by kernel_rfl
theorem apa:aa Tryz.prog 185 = some ⟨.func,1,8,some [.nilFunc],false,false,true⟩:=by kernel_rfl
theorem am5:aa Tryz.prog 186 = some ⟨.func,1,8,some [.nilFunc],false,false,true⟩:=by kernel_rfl
theorem aqr:aa Tryz.prog 187 = some ⟨.func,1,8,some [.nilFunc],false,false,true⟩:=by kernel_rfl
theorem arx:aa Tryz.prog 188 = some ⟨.func,1,8,some [.nilFunc],false,false,true⟩:=by kernel_rfl
theorem akv:aa Tryz.prog 189 = some ⟨.func,1,8,some [.nilFunc],false,false,true⟩:=by kernel_rfl
theorem anc:aa Tryz.prog 190 = some ⟨.func,1,8,some [.nilFunc],false,false,true⟩:=by kernel_rfl
theorem arc:aa Tryz.prog 191 = some ⟨.func,1,8,some [.nilFunc],false,false,true⟩:=by kernel_rfl
theorem aqd:aa Tryz.prog 193 = some ⟨.func,1,8,some [.nilFunc],false,false,true⟩:=by kernel_rfl
theorem ao0:aa Tryz.prog 194 = some ⟨.map 46 46,1,8,some [.map none],false,false,true⟩:=by kernel_rfl
theorem akw:aa Tryz.prog 195 = some ⟨.func,1,8,some [.nilFunc],false,false,true⟩:=by kernel_rfl
theorem aod:aa Tryz.prog 196 = some ⟨.func,1,8,some [.nilFunc],false,false,true⟩:=by kernel_rfl
theorem asx:aa Tryz.prog 197 = some ⟨.func,1,8,some [.nilFunc],false,false,true⟩:=by kernel_rfl
theorem aqn:aa Tryz.prog 198 = some ⟨.func,1,8,some [.nilFunc],false,false,true⟩:=by kernel_rfl
theorem am6:aa Tryz.prog 199 = some ⟨.func,1,8,some [.nilFunc],false,false,true⟩:=by kernel_rfl
theorem ama:aa Tryz.prog 200 = some ⟨.func,1,8,some [.nilFunc],false,false,true⟩:=by kernel_rfl
theorem ap2:aa Tryz.prog 201 = some ⟨.func,1,8,some [.nilFunc],false,false,true⟩:=by kernel_rfl
theorem ao4:aa Tryz.prog 202 = some ⟨.func,1,8,some [.nilFunc],false,false,true⟩:=by kernel_rfl
theorem apc:aa Tryz.prog 203 = some ⟨.func,1,8,some [.nilFunc],false,false,true⟩:=by kernel_rfl
theorem asm:aa Tryz.prog 204 = some ⟨.func,1,8,some [.nilFunc],false,false,true⟩:=by kernel_rfl
theorem ap9:aa Tryz.prog 205 = some ⟨.struct [(0,28,false)],1,24,some [.slice none 0 0],false,false,false⟩:=by kernel_rfl
theorem at1:aa Tryz.prog 206 = some ⟨.struct [(0,28,false)],1,24,some [.slice none 0 0],false,false,false⟩:=by kernel_rfl
theorem at5:aa Tryz.prog 207 = some ⟨.func,1,8,some [.nilFunc],false,false,true⟩:=by kernel_rfl
theorem aqa:aa Tryz.prog 208 = some ⟨.func,1,8,some [.nilFunc],false,false,true⟩:=by kernel_rfl
theorem at9:aa Tryz.prog 210 = some ⟨.func,1,8,some [.nilFunc],false,false,true⟩:=by kernel_rfl
theorem ape:aa Tryz.prog 211 = some ⟨.func,1,8,some [.nilFunc],false,false,true⟩:=by kernel_rfl
theorem ar2:aa Tryz.prog 212 = some ⟨.func,1,8,some [.nilFunc],false,false,true⟩:=by kernel_rfl
theorem alg:aa Tryz.prog 213 = some ⟨.func,1,8,some [.nilFunc],false,false,true⟩:=by kernel_rfl
theorem aow:aa Tryz.prog 214 = some ⟨.func,1,8,some [.nilFunc],false,false,true⟩:=by kernel_rfl
theorem amm:aa Tryz.prog 215 = some ⟨.func,1,8,some [.nilFunc],false,false,true⟩:=by kernel_rfl
theorem aq3:aa Tryz.prog 217 = some ⟨.func,1,8,some [.nilFunc],false,false,true⟩:=by kernel_rfl
theorem aqm:aa Tryz.prog 218 = some ⟨.func,1,8,some [.nilFunc],false,false,true⟩:=by kernel_rfl
theorem alb:aa Tryz.prog 219 = some ⟨.func,1,8,some [.nilFunc],false,false,true⟩:=by kernel_rfl
theorem anw:aa Tryz.prog 220 = some ⟨.func,1,8,some [.nilFunc],false,false,true⟩:=by kernel_rfl
theorem ark:aa Tryz.prog 221 = some ⟨.func,1,8,some [.nilFunc],false,false,true⟩:=by kernel_rfl
theorem apv:aa Tryz.prog 222 = some ⟨.func,1,8,some [.nilFunc],false,false,true⟩:=by kernel_rfl
theorem alr:aa Tryz.prog 223 = some ⟨.func,1,8,some [.nilFunc],false,false,true⟩:=by kernel_rfl
theorem ar5:aa Tryz.prog 224 = some ⟨.func,1,8,some [.nilFunc],false,false,true⟩:=by kernel_rfl
theorem aly:aa Tryz.prog 225 = some ⟨.func,1,8,some [.nilFunc],false,false,true⟩:=by kernel_rfl
theorem ate:aa Tryz.prog 226 = some ⟨.func,1,8,some [.nilFunc],false,false,true⟩:=by kernel_rfl
theorem art:aa Tryz.prog 227 = some ⟨.func,1,8,some [.nilFunc],false,false,true⟩:=by kernel_rfl
theorem ap1:aa Tryz.prog 228 = some ⟨.func,1,8,some [.nilFunc],false,false,true⟩:=by kernel_rfl
theorem aso:aa Tryz.prog 229 = some ⟨.func,1,8,some [.nilFunc],false,false,true⟩:=by kernel_rfl
theorem alq:aa Tryz.prog 230 = some ⟨.func,1,8,some [.nilFunc],false,false,true⟩:=by kernel_rfl
theorem arf:aa Tryz.prog 231 = some ⟨.func,1,8,some [.nilFunc],false,false,true⟩:=by kernel_rfl
theorem as5:aa Tryz.prog 232 = some ⟨.func,1,8,some [.nilFunc],false,false,true⟩:=by kernel_rfl
theorem ath:aa Tryz.prog 233 = some ⟨.func,1,8,some [.nilFunc],false,false,true⟩:=by kernel_rfl
theorem as1:aa Tryz.prog 234 = some ⟨.func,1,8,some [.nilFunc],false,false,true⟩:=by kernel_rfl
theorem aqo:aa Tryz.prog 235 = some ⟨.func,1,8,some [.nilFunc],false,false,true⟩:=by kernel_rfl
theorem ap6:aa Tryz.prog 236 = some ⟨.func,1,8,some [.nilFunc],false,false,true⟩:=by kernel_rfl
theorem ame:aa Tryz.prog 237 = some ⟨.func,1,8,some [.nilFunc],false,false,true⟩:=by kernel_rfl
theorem atf:aa Tryz.prog 238 = some ⟨.func,1,8,some [.nilFunc],false,false,true⟩:=by kernel_rfl
theorem al3:aa Tryz.prog 239 = some ⟨.pointer 206,1,8,some [.pointer none],false,false,true⟩:=by kernel_rfl
theorem ati:aa Tryz.prog 240 = some ⟨.func,1,8,some [.nilFunc],false,false,true⟩:=by kernel_rfl
theorem aln:aa Tryz.prog 241 = some ⟨.func,1,8,some [.nilFunc],false,false,true⟩:=by kernel_rfl
theorem ari:aa Tryz.prog 242 = some ⟨.int .i64,1,8,some [.int .i64 0],false,false,true⟩:=by kernel_rfl
theorem am0:aa Tryz.prog 244 = some ⟨.func,1,8,some [.nilFunc],false,false,true⟩:=by kernel_rfl
theorem anv:aa Tryz.prog 245 = some ⟨.func,1,8,some [.nilFunc],false,false,true⟩:=by kernel_rfl
theorem akt:aa Tryz.prog 246 = some ⟨.func,1,8,some [.nilFunc],false,false,true⟩:=by kernel_rfl
theorem amj:aa Tryz.prog 248 = some ⟨.func,1,8,some [.nilFunc],false,false,true⟩:=by kernel_rfl
theorem aq4:aa Tryz.prog 249 = some ⟨.func,1,8,some [.nilFunc],false,false,true⟩:=by kernel_rfl
theorem asi:aa Tryz.prog 250 = some ⟨.func,1,8,some [.nilFunc],false,false,true⟩:=by kernel_rfl
theorem al0:aa Tryz.prog 251 = some ⟨.func,1,8,some [.nilFunc],false,false,true⟩:=by kernel_rfl
theorem ant:aa Tryz.prog 252 = some ⟨.func,1,8,some [.nilFunc],false,false,true⟩:=by kernel_rfl
theorem akz:aa Tryz.prog 253 = some ⟨.func,1,8,some [.nilFunc],false,false,true⟩:=by kernel_rfl
theorem ase:aa Tryz.prog 254 = some ⟨.func,1,8,some [.nilFunc],false,false,true⟩:=by kernel_rfl
theorem an2:aa Tryz.prog 255 = some ⟨.func,1,8,some [.nilFunc],false,false,true⟩:=by kernel_rfl
theorem an7:aa Tryz.prog 256 = some ⟨.func,1,8,some [.nilFunc],false,false,true⟩:=by kernel_rfl
theorem aox:aa Tryz.prog 257 = some ⟨.slice 26,1,24,some [.slice none 0 0],false,false,true⟩:=by kernel_rfl
theorem apy:aa Tryz.prog 258 = some ⟨.int .u64,1,8,some [.int .u64 0],false,false,true⟩:=by kernel_rfl
theorem aon:aa Tryz.prog 259 = some ⟨.func,1,8,some [.nilFunc],false,false,true⟩:=by kernel_rfl
theorem apo:aa Tryz.prog 260 = some ⟨.func,1,8,some [.nilFunc],false,false,true⟩:=by kernel_rfl
theorem al2:aa Tryz.prog 261 = some ⟨.func,1,8,some [.nilFunc],false,false,true⟩:=by kernel_rfl
theorem aoz:aa Tryz.prog 262 = some ⟨.pointer 3,1,8,some [.pointer none],false,false,true⟩:=by kernel_rfl
theorem ana:aa Tryz.prog 263 = some ⟨.func,1,8,some [.nilFunc],false,false,true⟩:=by kernel_rfl
theorem ane:aa Tryz.prog 264 = some ⟨.func,1,8,some [.nilFunc],false,false,true⟩:=by kernel_rfl
theorem aqk:aa Tryz.prog 265 = some ⟨.func,1,8,some [.nilFunc],false,false,true⟩:=by kernel_rfl
theorem anj:aa Tryz.prog 266 = some ⟨.pointer 258,1,8,some [.pointer none],false,false,true⟩:=by kernel_rfl
theorem anz:aa Tryz.prog 268 = some ⟨.func,1,8,some [.nilFunc],false,false,true⟩:=by kernel_rfl
theorem ao1:aa Tryz.prog 269 = some ⟨.func,1,8,some [.nilFunc],false,false,true⟩:=by kernel_rfl
theorem ao5:aa Tryz.prog 272 = some ⟨.array 0 16,0,0,some [],false,false,false⟩:=by kernel_rfl
theorem ar3:aa Tryz.prog 275 = some ⟨.func,1,8,some [.nilFunc],false,false,true⟩:=by kernel_rfl
theorem asn:aa Tryz.prog 276 = some ⟨.int .u8,1,1,some [.int .u8 0],false,false,true⟩:=by kernel_rfl
theorem an1:aa Tryz.prog 277 = some ⟨.int .u8,1,1,some [.int .u8 0],false,false,true⟩:=by kernel_rfl
theorem als:aa Tryz.prog 278 = some ⟨.func,1,8,some [.nilFunc],false,false,true⟩:=by kernel_rfl
theorem amx:aa Tryz.prog 279 = some ⟨.int .i32,1,4,some [.int .i32 0],false,false,true⟩:=by kernel_rfl
theorem apj:aa Tryz.prog 280 = some ⟨.int .i32,1,4,some [.int .i32 0],false,false,true⟩:=by kernel_rfl
theorem au6:aiu Tryz.prog ab1 0:=⟨b1r,⟨b3n,⟨b26,⟨b2z,⟨b2y,⟨b2p,⟨b0l,⟨b3s,⟨b0w,⟨auf,⟨awk,⟨avf,⟨avn,⟨az2,⟨av7,⟨atk,⟨auc,⟨ayi,⟨awn,⟨av2,⟨awr,⟨axg,⟨aws,⟨avi,⟨avs,⟨awj,⟨axn,⟨awz,⟨atj,⟨ato,⟨auy,⟨auo,⟨awi,⟨awm,⟨avg,⟨atq,⟨ax7,⟨aw4,⟨ave,⟨av4,⟨axs,⟨ax8,⟨avp,⟨axr,⟨axc,⟨axt,⟨axx,⟨auq,⟨axl,⟨axh,⟨axk,⟨atm,⟨aux,⟨atl,⟨atz,⟨ayr,⟨awo,⟨awb,⟨av1,⟨ay4,⟨axo,⟨ay3,⟨av0,⟨aty,⟨aus,⟨awe,⟨ayt,⟨aw7,⟨ayc,⟨aur,⟨aw1,⟨av5,⟨ay5,⟨ayb,⟨au9,⟨au1,⟨ayz,⟨aw8,⟨ayl,⟨ax4,⟨atp,⟨ayj,⟨ayw,⟨an0,⟨ao8,⟨arq,⟨ap7,⟨asq,⟨ar4,⟨aqh,⟨aru,⟨as3,⟨apq,⟨ar1,⟨asc,⟨amz,⟨at0,⟨ar8,⟨atd,⟨al5,⟨asw,⟨alf,⟨anp,⟨amp,⟨amd,⟨amr,⟨apx,⟨amy,⟨arz,⟨ast,⟨am2,⟨asj,⟨an4,⟨apr,⟨ary,⟨alu,⟨anq,⟨ar7,⟨alz,⟨aoi,⟨ao9,⟨asy,⟨alc,⟨apt,⟨ala,⟨ap4,⟨aq8,⟨al9,⟨amw,⟨ar0,⟨arh,⟨aq1,⟨ar6,⟨ank,⟨ani,⟨aor,⟨aom,⟨amc,⟨ap0,⟨apg,⟨aqj,⟨amk,⟨as7,⟨ass,⟨aml,⟨ang,⟨arp,⟨amg,⟨aoy,⟨at7,⟨ams,⟨asg,⟨aqs,⟨aq6,⟨apf,⟨anl,⟨al7,⟨apa,⟨am5,⟨aqr,⟨arx,⟨akv,⟨anc,⟨arc,⟨aqd,⟨ao0,⟨akw,⟨aod,⟨asx,⟨aqn,⟨am6,⟨ama,⟨ap2,⟨ao4,⟨apc,⟨asm,⟨ap9,⟨at1,⟨at5,⟨aqa,⟨at9,⟨ape,⟨ar2,⟨alg,⟨aow,⟨amm,⟨aq3,⟨aqm,⟨alb,⟨anw,⟨ark,⟨apv,⟨alr,⟨ar5,⟨aly,⟨ate,⟨art,⟨ap1,⟨aso,⟨alq,⟨arf,⟨as5,⟨ath,⟨as1,⟨aqo,⟨ap6,⟨ame,⟨atf,⟨al3,⟨ati,⟨aln,⟨ari,⟨am0,⟨anv,⟨akt,⟨amj,⟨aq4,⟨asi,⟨al0,⟨ant,⟨akz,⟨ase,⟨an2,⟨an7,⟨aox,⟨apy,⟨aon,⟨apo,⟨al2,⟨aoz,⟨ana,⟨ane,⟨aqk,⟨anj,⟨anz,⟨ao1,⟨ao5,⟨ar3,⟨asn,⟨an1,⟨als,⟨amx,⟨apj,trivial⟩⟩⟩⟩⟩⟩⟩⟩⟩⟩⟩⟩⟩⟩⟩⟩⟩⟩⟩⟩⟩⟩⟩⟩⟩⟩⟩⟩⟩⟩⟩⟩⟩⟩⟩⟩⟩⟩⟩⟩⟩⟩⟩⟩⟩⟩⟩⟩⟩⟩⟩⟩⟩⟩⟩⟩⟩⟩⟩⟩⟩⟩⟩⟩⟩⟩⟩⟩⟩⟩⟩⟩⟩⟩⟩⟩⟩⟩⟩⟩⟩⟩⟩⟩⟩⟩⟩⟩⟩⟩⟩⟩⟩⟩⟩⟩⟩⟩⟩⟩⟩⟩⟩⟩⟩⟩⟩⟩⟩⟩⟩⟩⟩⟩⟩⟩⟩⟩⟩⟩⟩⟩⟩⟩⟩⟩⟩⟩⟩⟩⟩⟩⟩⟩⟩⟩⟩⟩⟩⟩⟩⟩⟩⟩⟩⟩⟩⟩⟩⟩⟩⟩⟩⟩⟩⟩⟩⟩⟩⟩⟩⟩⟩⟩⟩⟩⟩⟩⟩⟩⟩⟩⟩⟩⟩⟩⟩⟩⟩⟩⟩⟩⟩⟩⟩⟩⟩⟩⟩⟩⟩⟩⟩⟩⟩⟩⟩⟩⟩⟩⟩⟩⟩⟩⟩⟩⟩⟩⟩⟩⟩⟩⟩⟩⟩⟩⟩⟩⟩⟩⟩⟩⟩⟩⟩⟩⟩⟩⟩⟩⟩⟩⟩⟩⟩⟩⟩⟩⟩⟩⟩⟩⟩
theorem a7:ci Tryz.prog bm:=fun t i h=>by
 have:=a0a au6 t i h
 rwa [Nat.zero_add] at this
theorem ax:Tryz.prog.follows .mixedOrders = true:=by kernel_rfl
end Go.Hx
namespace Go.Hx
open Go.Proofs
section
variable {ro:Option Nat} {P:Program} {E:Env} {nt:Nat} {ops:Array Oper} {i:Nat} {o:Oper} {st:HSt} {L:List Nat} {K:List Tr → HSt → Prop} {Q:Exit → HSt → Prop}
theorem qy {out:Out} {gb:Bool} (hT:Reg P E nt ops L (st.after o.dst (some out.val) []) fun T sf=>K (⟨i,a4u true out.val.ids,looks st.den o,ca st.den o.dst [],ew E st.den o⟩ :: T) sf)
 (hi:ops[i]? = some o:=by exact rfl) (hw:aw ops st.den o = some gb:=by exact rfl) (hd:db nt o.dst = true:=by exact rfl) (hq':hq E true st.den.o (ev st.den) o.op = some out:=by exact rfl) (hg:gb = true:=by exact rfl)
 (hp:out.pre:=by first | exact trivial | (simp only [io,inR,qf,ve];omega) | exact af5 _ _ | exact ⟨trivial,trivial⟩ | exact ⟨trivial,Nat.le_of_ble_eq_true rfl⟩ | (try dsimp only) <;> ((repeat' apply And.intro) <;> first | trivial | rfl | omega | (simp only [dq,b4];omega) | assumption | exact Nat.le_of_ble_eq_true rfl)) :
 Reg P E nt ops (i :: L) st K:=d5 true hi hw hd hq' hg hp hT
theorem k9 {gb:Bool} (hg:gb = false) (hT:Reg P E nt ops L (st.after o.dst (some (.tup [])) []) fun T sf=>K (⟨i,a4u true [],looks st.den o,ca st.den o.dst [],none⟩ :: T) sf)
 (hi:ops[i]? = some o:=by exact rfl) (hw:aw ops st.den o = some gb:=by exact rfl) (hd:db nt o.dst = true:=by exact rfl):Reg P E nt ops (i :: L) st K:=agq hi hw hd hg hT
theorem m9 (id:Nat) {nw:New} {gb:Bool} (hT:Reg P E nt ops L (st.after o.dst (some nw.val) [(id,some nw.ob)]) fun T sf=>K (⟨i,⟨id,false,true, .tup [],[id],[id],nw.val.ids ++ nw.ob.ids⟩,looks st.den o,ca st.den o.dst [(id,some nw.ob)],none⟩ :: T) sf)
 (hi:ops[i]? = some o:=by exact rfl) (hw:aw ops st.den o = some gb:=by exact rfl) (hd:db nt o.dst = true:=by exact rfl) (hq':ha E (ev st.den) id o.op = some nw:=by exact rfl) (hn:qq id st = true:=by exact rfl) (hg:gb = true:=by exact rfl)
 (hp:nw.pre:=by first | exact trivial | (try dsimp only) <;> ((repeat' apply And.intro) <;> first | trivial | rfl | omega | assumption)):Reg P E nt ops (i :: L) st K:=xm id hi hw hd hq' hn hg hp hT
theorem s9 {u:Upd} {gb:Bool} (hT:Reg P E nt ops L (st.after o.dst none [(u.id,some u.ob)]) fun T sf=>K (⟨i,⟨0,false,true, .tup [],[u.id],[],u.ob.ids⟩,looks st.den o,ca st.den o.dst [(u.id,some u.ob)],ew E st.den o⟩ :: T) sf)
 (hi:ops[i]? = some o:=by exact rfl) (hw:aw ops st.den o = some gb:=by exact rfl) (hd:db nt o.dst = true:=by exact rfl) (hq':hs E st.den.o (ev st.den) o.op = some u:=by exact rfl) (hg:gb = true:=by exact rfl)
 (hp:u.pre:=by first | exact Nat.le_of_ble_eq_true rfl | (try dsimp only) <;> ((repeat' apply And.intro) <;> first | trivial | rfl | omega | (simp only [dq,b4];omega) | assumption | exact Nat.le_of_ble_eq_true rfl)):Reg P E nt ops (i :: L) st K:=aeh hi hw hd hq' hg hp hT
theorem f9 {rs:List ResultVar} {res:List PC} {p q:Prop} {l:List HC} {vs:List PC} (h1:xb E st.den rs = some (p,l)) (h2:n8 st.den.o l = some (q,vs)) (hc:CoL vs res)
 (hp:p:=by (repeat' apply And.intro) <;> first | trivial | exact Nat.le_of_ble_eq_true rfl | rfl) (hq:q:=by (repeat' apply And.intro) <;> first | trivial | exact Nat.le_of_ble_eq_true rfl | rfl):aj2 E st rs res:=⟨p,l,q,vs,h1,hp,h2,hq,hc⟩
theorem c9 {f:Option HR} {x:HR} (h:f = some x:=by exact rfl):∃ y,f = some y ∧ CoR y x:=⟨x,h,CoR.refl x⟩
theorem u9 {f:Option af} {x:af} (h:f = some x:=by exact rfl):∃ y,f = some y ∧ CoO y x:=⟨x,h,CoO.refl x⟩
theorem zy {f:Option HR} {x y:HR} (h:f = some y:=by exact rfl) (c:CoR y x:=by first | exact CoR.refl _ | exact coi (by omega) | exact cob (by simp_all)):∃ y,f = some y ∧ CoR y x:=⟨y,h,c⟩
theorem l9 {a b:Nat} (h:Nat.ble a b = true:=by exact rfl):a ≤ b:=Nat.le_of_ble_eq_true h
theorem ty {n:Nat}:((n:Nat):Int).toNat = n:=Int.toNat_natCast n
end
theorem gy {ro:Option Nat} {nt id:Nat} {ops:Array Oper} {st:HSt} {Q:Exit → HSt → Prop} (h:Reg Tryz.prog bm nt ops (List.range ops.size) st fun _ sf=>Q .normal sf):HW (ro:=ro) Tryz.prog nt (.region id ops false) st Q:=aa8 a7 h
end Go.Hx
namespace Go.Hx
open Go.Proofs
theorem sx7 {ro:Option Nat} {nt id:Nat} {ops:Array Oper} {st:HSt} {y:Code} {Q:Exit → HSt → Prop} (h:Reg Tryz.prog bm nt ops (List.range ops.size) st fun _ sf=>b6f (ro:=ro) Tryz.prog nt y Q .normal sf):HW (ro:=ro) Tryz.prog nt (.seq (.region id ops false) y) st Q:=ct (aa8 a7 h)
theorem hx8 {ro:Option Nat} {P:Program} {E:Env} {nt:Nat} {st:HSt} {Q:Exit → HSt → Prop} {rs:List ResultVar} {res:List PC} {p q:Prop} {l:List HC} {vs:List PC} (hQ:Q .ret st = ((Exit.ret = .normal ∨ Exit.ret = .ret) ∧ aj2 E st rs res)) (h1:xb E st.den rs = some (p,l)) (h2:n8 st.den.o l = some (q,vs)) (hc:CoL vs res)
 (hp:p:=by (repeat' apply And.intro) <;> first | trivial | exact Nat.le_of_ble_eq_true rfl | rfl) (hq:q:=by (repeat' apply And.intro) <;> first | trivial | exact Nat.le_of_ble_eq_true rfl | rfl):HW (ro:=ro) P nt .ret st Q:=gn (hQ ▸ ⟨.inr rfl,p,l,q,vs,h1,hp,h2,hq,hc⟩)
end Go.Hx
end
section
namespace Go.Hx
structure Hq (Q:Prop):Prop where
 v:Q
theorem w_1 {P Q:Prop} (hQ:Q) (h:Hq Q → P:=by intro h;(first | refine qy ?_ | refine b8 ?_ | refine ct ?_ | refine gy ?_ | refine s9 ?_ | refine dp ?_ | refine gn ?_ | refine acq ?_ | refine er ?_);exact h.v):P:=h ⟨hQ⟩
theorem w_2 {P Q:Prop} (hQ:Q) (h:Hq Q → P:=by intro h;(iterate 2 refine w_1 ?_);exact h.v):P:=h ⟨hQ⟩
theorem w_3 {P Q:Prop} (hQ:Q) (h:Hq Q → P:=by intro h;(iterate 3 refine w_1 ?_);exact h.v):P:=h ⟨hQ⟩
theorem w_4 {P Q:Prop} (hQ:Q) (h:Hq Q → P:=by intro h;(iterate 4 refine w_1 ?_);exact h.v):P:=h ⟨hQ⟩
theorem w_5 {P Q:Prop} (hQ:Q) (h:Hq Q → P:=by intro h;(iterate 5 refine w_1 ?_);exact h.v):P:=h ⟨hQ⟩
theorem w_6 {P Q:Prop} (hQ:Q) (h:Hq Q → P:=by intro h;(iterate 6 refine w_1 ?_);exact h.v):P:=h ⟨hQ⟩
theorem w_7 {P Q:Prop} (hQ:Q) (h:Hq Q → P:=by intro h;(iterate 7 refine w_1 ?_);exact h.v):P:=h ⟨hQ⟩
theorem w_8 {P Q:Prop} (hQ:Q) (h:Hq Q → P:=by intro h;(iterate 8 refine w_1 ?_);exact h.v):P:=h ⟨hQ⟩
theorem w_9 {P Q:Prop} (hQ:Q) (h:Hq Q → P:=by intro h;(iterate 9 refine w_1 ?_);exact h.v):P:=h ⟨hQ⟩
theorem d7 {P Q:Prop} (hQ:Q) (h:Hq Q → P:=by intro h;(iterate 10 refine w_1 ?_);exact h.v):P:=h ⟨hQ⟩
theorem ez {P Q:Prop} (hQ:Q) (h:Hq Q → P:=by intro h;(iterate 11 refine w_1 ?_);exact h.v):P:=h ⟨hQ⟩
theorem fl {P Q:Prop} (hQ:Q) (h:Hq Q → P:=by intro h;(iterate 12 refine w_1 ?_);exact h.v):P:=h ⟨hQ⟩
theorem ld {P Q:Prop} (hQ:Q) (h:Hq Q → P:=by intro h;(iterate 13 refine w_1 ?_);exact h.v):P:=h ⟨hQ⟩
theorem a1x {P Q:Prop} (hQ:Q) (h:Hq Q → P:=by intro h;(iterate 14 refine w_1 ?_);exact h.v):P:=h ⟨hQ⟩
theorem o0 {P Q:Prop} (hQ:Q) (h:Hq Q → P:=by intro h;(iterate 15 refine w_1 ?_);exact h.v):P:=h ⟨hQ⟩
theorem a52 {P Q:Prop} (hQ:Q) (h:Hq Q → P:=by intro h;(iterate 16 refine w_1 ?_);exact h.v):P:=h ⟨hQ⟩
theorem akn {P Q:Prop} (hQ:Q) (h:Hq Q → P:=by intro h;(iterate 17 refine w_1 ?_);exact h.v):P:=h ⟨hQ⟩
theorem ava {P Q:Prop} (hQ:Q) (h:Hq Q → P:=by intro h;(iterate 18 refine w_1 ?_);exact h.v):P:=h ⟨hQ⟩
theorem a86 {P Q:Prop} (hQ:Q) (h:Hq Q → P:=by intro h;(iterate 19 refine w_1 ?_);exact h.v):P:=h ⟨hQ⟩
theorem aya {P Q:Prop} (hQ:Q) (h:Hq Q → P:=by intro h;(iterate 20 refine w_1 ?_);exact h.v):P:=h ⟨hQ⟩
theorem akf {P Q:Prop} (hQ:Q) (h:Hq Q → P:=by intro h;(iterate 21 refine w_1 ?_);exact h.v):P:=h ⟨hQ⟩
theorem bcw {P Q:Prop} (hQ:Q) (h:Hq Q → P:=by intro h;(iterate 22 refine w_1 ?_);exact h.v):P:=h ⟨hQ⟩
theorem bc4 {P Q:Prop} (hQ:Q) (h:Hq Q → P:=by intro h;(iterate 30 refine w_1 ?_);exact h.v):P:=h ⟨hQ⟩
end Go.Hx
end
