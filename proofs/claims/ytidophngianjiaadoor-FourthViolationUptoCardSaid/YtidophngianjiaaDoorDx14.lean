/- A part of the proof: HxEnv Hx19 Hx23 Cs1 Cs3 V1 Cs4. -/
import Derived.Deep.AppendLies
import Derived.Laws.CopyRow
import Derived.Shelf.Spec.SlicesInsertGrow
import Derived.Test.YtidophngianjiaaDoorProg
import Derived.Test.YtidophngianjiaaDoorDx13
set_option linter.all false
section
namespace Go.Hx
open Go.Proofs
def a3v:List (Option TI):=[
 none,
 some ⟨.func,1,8,some [.nilFunc],false,false,true⟩,
 some ⟨.int .i64,1,8,some [.int .i64 0],false,false,true⟩,
 some ⟨.int .i64,1,8,some [.int .i64 0],false,false,true⟩,
 some ⟨.bool,1,1,some [.bool false],false,false,true⟩,
 some ⟨.int .u8,1,1,some [.int .u8 0],false,false,true⟩,
 some ⟨.int .u8,1,1,some [.int .u8 0],false,false,true⟩,
 some ⟨.struct [(0,2,false),(1,3,false),(2,4,false),(3,6,false)],4,24,some [.int .i64 0, .int .i64 0, .bool false, .int .u8 0],false,false,false⟩,
 some ⟨.struct [(0,2,false),(1,3,false),(2,4,false),(3,6,false)],4,24,some [.int .i64 0, .int .i64 0, .bool false, .int .u8 0],false,false,false⟩,
 some ⟨.string,1,16,some [.string ⟨#[]⟩],false,false,true⟩,
 some ⟨.string,1,16,some [.string ⟨#[]⟩],false,false,true⟩,
 some ⟨.string,1,16,some [.string ⟨#[]⟩],false,false,true⟩,
 some ⟨.int .u64,1,8,some [.int .u64 0],false,false,true⟩,
 none,
 none,
 some ⟨.pointer 127,1,8,some [.pointer none],false,false,true⟩,
 some ⟨.pointer 130,1,8,some [.pointer none],false,false,true⟩,
 some ⟨.pointer 139,1,8,some [.pointer none],false,false,true⟩,
 none,
 none,
 none,
 some ⟨.int .i32,1,4,some [.int .i32 0],false,false,true⟩,
 some ⟨.slice 88,1,24,some [.slice none 0 0],false,false,true⟩,
 some ⟨.struct [(0,5,false),(1,22,false)],2,32,some [.int .u8 0, .slice none 0 0],false,false,false⟩,
 some ⟨.struct [(0,5,false),(1,22,false)],2,32,some [.int .u8 0, .slice none 0 0],false,false,false⟩,
 some ⟨.struct [(0,24,false),(2,22,false)],3,56,some [.int .u8 0, .slice none 0 0, .slice none 0 0],false,false,false⟩,
 some ⟨.struct [(0,24,false),(2,22,false)],3,56,some [.int .u8 0, .slice none 0 0, .slice none 0 0],false,false,false⟩,
 some ⟨.array 2 5,2,2,some [.int .u8 0, .int .u8 0],false,false,false⟩,
 some ⟨.slice 42,1,24,some [.slice none 0 0],false,false,true⟩,
 some ⟨.slice 44,1,24,some [.slice none 0 0],false,false,true⟩,
 none,
 some ⟨.func,1,8,some [.nilFunc],false,false,true⟩,
 some ⟨.func,1,8,some [.nilFunc],false,false,true⟩,
 some ⟨.int .u32,1,4,some [.int .u32 0],false,false,true⟩,
 some ⟨.int .u32,1,4,some [.int .u32 0],false,false,true⟩,
 some ⟨.func,1,8,some [.nilFunc],false,false,true⟩,
 some ⟨.slice 34,1,24,some [.slice none 0 0],false,false,true⟩,
 some ⟨.int .i64,1,8,some [.int .i64 0],false,false,true⟩,
 none,
 some ⟨.func,1,8,some [.nilFunc],false,false,true⟩,
 some ⟨.func,1,8,some [.nilFunc],false,false,true⟩,
 some ⟨.struct [(0,34,false),(1,34,false)],2,8,some [.int .u32 0, .int .u32 0],false,false,false⟩,
 some ⟨.struct [(0,34,false),(1,34,false)],2,8,some [.int .u32 0, .int .u32 0],false,false,false⟩,
 some ⟨.func,1,8,some [.nilFunc],false,false,true⟩,
 some ⟨.struct [(0,34,false),(1,34,false)],2,8,some [.int .u32 0, .int .u32 0],false,false,false⟩,
 some ⟨.func,1,8,some [.nilFunc],false,false,true⟩,
 some ⟨.func,1,8,some [.nilFunc],false,false,true⟩,
 some ⟨.func,1,8,some [.nilFunc],false,false,true⟩,
 none,
 some ⟨.func,1,8,some [.nilFunc],false,false,true⟩,
 none,
 some ⟨.func,1,8,some [.nilFunc],false,false,true⟩,
 none,
 some ⟨.func,1,8,some [.nilFunc],false,false,true⟩,
 some ⟨.func,1,8,some [.nilFunc],false,false,true⟩,
 some ⟨.func,1,8,some [.nilFunc],false,false,true⟩,
 none,
 some ⟨.func,1,8,some [.nilFunc],false,false,true⟩,
 some ⟨.func,1,8,some [.nilFunc],false,false,true⟩,
 some ⟨.func,1,8,some [.nilFunc],false,false,true⟩,
 some ⟨.func,1,8,some [.nilFunc],false,false,true⟩,
 some ⟨.func,1,8,some [.nilFunc],false,false,true⟩,
 some ⟨.func,1,8,some [.nilFunc],false,false,true⟩,
 some ⟨.func,1,8,some [.nilFunc],false,false,true⟩,
 some ⟨.func,1,8,some [.nilFunc],false,false,true⟩,
 none,
 some ⟨.func,1,8,some [.nilFunc],false,false,true⟩,
 some ⟨.func,1,8,some [.nilFunc],false,false,true⟩,
 some ⟨.func,1,8,some [.nilFunc],false,false,true⟩,
 some ⟨.slice 3,1,24,some [.slice none 0 0],false,false,true⟩,
 some ⟨.func,1,8,some [.nilFunc],false,false,true⟩,
 some ⟨.func,1,8,some [.nilFunc],false,false,true⟩,
 some ⟨.func,1,8,some [.nilFunc],false,false,true⟩,
 some ⟨.func,1,8,some [.nilFunc],false,false,true⟩,
 some ⟨.func,1,8,some [.nilFunc],false,false,true⟩,
 some ⟨.func,1,8,some [.nilFunc],false,false,true⟩,
 some ⟨.func,1,8,some [.nilFunc],false,false,true⟩,
 some ⟨.struct [(0,36,false)],1,24,some [.slice none 0 0],false,false,false⟩,
 some ⟨.struct [(0,36,false)],1,24,some [.slice none 0 0],false,false,false⟩,
 some ⟨.func,1,8,some [.nilFunc],false,false,true⟩,
 some ⟨.func,1,8,some [.nilFunc],false,false,true⟩,
 some ⟨.func,1,8,some [.nilFunc],false,false,true⟩,
 some ⟨.func,1,8,some [.nilFunc],false,false,true⟩,
 some ⟨.func,1,8,some [.nilFunc],false,false,true⟩,
 some ⟨.int .u64,1,8,some [.int .u64 0],false,false,true⟩,
 some ⟨.func,1,8,some [.nilFunc],false,false,true⟩,
 some ⟨.func,1,8,some [.nilFunc],false,false,true⟩,
 some ⟨.struct [(0,5,false),(1,5,false)],2,2,some [.int .u8 0, .int .u8 0],false,false,false⟩,
 some ⟨.struct [(0,5,false),(1,5,false)],2,2,some [.int .u8 0, .int .u8 0],false,false,false⟩,
 some ⟨.func,1,8,some [.nilFunc],false,false,true⟩,
 some ⟨.func,1,8,some [.nilFunc],false,false,true⟩,
 some ⟨.func,1,8,some [.nilFunc],false,false,true⟩,
 some ⟨.func,1,8,some [.nilFunc],false,false,true⟩,
 some ⟨.int .u64,1,8,some [.int .u64 0],false,false,true⟩,
 some ⟨.func,1,8,some [.nilFunc],false,false,true⟩,
 some ⟨.func,1,8,some [.nilFunc],false,false,true⟩,
 some ⟨.func,1,8,some [.nilFunc],false,false,true⟩,
 some ⟨.func,1,8,some [.nilFunc],false,false,true⟩,
 some ⟨.func,1,8,some [.nilFunc],false,false,true⟩,
 some ⟨.func,1,8,some [.nilFunc],false,false,true⟩,
 some ⟨.func,1,8,some [.nilFunc],false,false,true⟩,
 some ⟨.func,1,8,some [.nilFunc],false,false,true⟩,
 some ⟨.func,1,8,some [.nilFunc],false,false,true⟩,
 some ⟨.int .i64,1,8,some [.int .i64 0],false,false,true⟩,
 none,
 some ⟨.func,1,8,some [.nilFunc],false,false,true⟩,
 some ⟨.func,1,8,some [.nilFunc],false,false,true⟩,
 some ⟨.func,1,8,some [.nilFunc],false,false,true⟩,
 none,
 some ⟨.func,1,8,some [.nilFunc],false,false,true⟩,
 some ⟨.func,1,8,some [.nilFunc],false,false,true⟩,
 some ⟨.func,1,8,some [.nilFunc],false,false,true⟩,
 some ⟨.pointer 78,1,8,some [.pointer none],false,false,true⟩,
 some ⟨.func,1,8,some [.nilFunc],false,false,true⟩,
 some ⟨.func,1,8,some [.nilFunc],false,false,true⟩,
 some ⟨.array 32 5,32,32,some [.int .u8 0, .int .u8 0, .int .u8 0, .int .u8 0, .int .u8 0, .int .u8 0, .int .u8 0, .int .u8 0, .int .u8 0, .int .u8 0, .int .u8 0, .int .u8 0, .int .u8 0, .int .u8 0, .int .u8 0, .int .u8 0, .int .u8 0, .int .u8 0, .int .u8 0, .int .u8 0, .int .u8 0, .int .u8 0, .int .u8 0, .int .u8 0, .int .u8 0, .int .u8 0, .int .u8 0, .int .u8 0, .int .u8 0, .int .u8 0, .int .u8 0, .int .u8 0],false,false,false⟩,
 some ⟨.int .u64,1,8,some [.int .u64 0],false,false,true⟩,
 some ⟨.func,1,8,some [.nilFunc],false,false,true⟩,
 some ⟨.func,1,8,some [.nilFunc],false,false,true⟩,
 some ⟨.func,1,8,some [.nilFunc],false,false,true⟩,
 some ⟨.pointer 3,1,8,some [.pointer none],false,false,true⟩,
 some ⟨.func,1,8,some [.nilFunc],false,false,true⟩,
 some ⟨.pointer 116,1,8,some [.pointer none],false,false,true⟩,
 none,
 some ⟨.func,1,8,some [.nilFunc],false,false,true⟩,
 some ⟨.func,1,8,some [.nilFunc],false,false,true⟩,
 none,
 none,
 some ⟨.array 0 16,0,0,some [],false,false,false⟩,
 none,
 none,
 some ⟨.func,1,8,some [.nilFunc],false,false,true⟩,
 some ⟨.int .u8,1,1,some [.int .u8 0],false,false,true⟩,
 some ⟨.int .u8,1,1,some [.int .u8 0],false,false,true⟩,
 some ⟨.func,1,8,some [.nilFunc],false,false,true⟩,
 some ⟨.pointer 5,1,8,some [.pointer none],false,false,true⟩,
 some ⟨.int .i32,1,4,some [.int .i32 0],false,false,true⟩,
 some ⟨.int .i32,1,4,some [.int .i32 0],false,false,true⟩,
 none,
 none,
 none]
def ya:List (Option TI) → Nat → Option TI
 | [],_=>none
 | x :: _,0=>x
 | _ :: r,n + 1=>ya r n
def dg:Env:=ya a3v
def aaj (P:Program):List (Option TI) → Nat → Prop
 | [],_=>True
 | none :: r,n=>aaj P r (n + 1)
 | some i :: r,n=>ak P n = some i ∧ aaj P r (n + 1)
theorem w5 {P:Program}:∀ {l:List (Option TI)} {n:Nat},aaj P l n → ∀ t i,ya l t = some i → ak P (n + t) = some i
 | [],_,_,t,i,h=>by simp [ya] at h
 | none :: r,n,hf,0,i,h=>by simp [ya] at h
 | some x :: r,n,hf,0,i,h=>by simp only [ya,Option.some.injEq] at h;subst h;exact hf.1
 | none :: r,n,hf,t + 1,i,h=>by have:=w5 (l:=r) (n:=n + 1) hf t i h;rwa [show n + (t + 1) = n + 1 + t by omega]
 | some x :: r,n,hf,t + 1,i,h=>by have:=w5 (l:=r) (n:=n + 1) hf.2 t i h;rwa [show n + (t + 1) = n + 1 + t by omega]
theorem amf:ak Tryd.prog 1 = some ⟨.func,1,8,some [.nilFunc],false,false,true⟩:=by kernel_rfl
theorem ami:ak Tryd.prog 2 = some ⟨.int .i64,1,8,some [.int .i64 0],false,false,true⟩:=by kernel_rfl
theorem anl:ak Tryd.prog 3 = some ⟨.int .i64,1,8,some [.int .i64 0],false,false,true⟩:=by kernel_rfl
theorem amj:ak Tryd.prog 4 = some ⟨.bool,1,1,some [.bool false],false,false,true⟩:=by kernel_rfl
theorem amu:ak Tryd.prog 5 = some ⟨.int .u8,1,1,some [.int .u8 0],false,false,true⟩:=by kernel_rfl
theorem als:ak Tryd.prog 6 = some ⟨.int .u8,1,1,some [.int .u8 0],false,false,true⟩:=by kernel_rfl
theorem anh:ak Tryd.prog 7 = some ⟨.struct [(0,2,false),(1,3,false),(2,4,false),(3,6,false)],4,24,some [.int .i64 0, .int .i64 0, .bool false, .int .u8 0],false,false,false⟩:=by kernel_rfl
theorem anf:ak Tryd.prog 8 = some ⟨.struct [(0,2,false),(1,3,false),(2,4,false),(3,6,false)],4,24,some [.int .i64 0, .int .i64 0, .bool false, .int .u8 0],false,false,false⟩:=by kernel_rfl
theorem ame:ak Tryd.prog 9 = some ⟨.string,1,16,some [.string ⟨#[]⟩],false,false,true⟩:=by kernel_rfl
theorem aie:ak Tryd.prog 10 = some ⟨.string,1,16,some [.string ⟨#[]⟩],false,false,true⟩:=by kernel_rfl
theorem aja:ak Tryd.prog 11 = some ⟨.string,1,16,some [.string ⟨#[]⟩],false,false,true⟩:=by kernel_rfl
theorem aji:ak Tryd.prog 12 = some ⟨.int .u64,1,8,some [.int .u64 0],false,false,true⟩:=by kernel_rfl
theorem ahq:ak Tryd.prog 15 = some ⟨.pointer 127,1,8,some [.pointer none],false,false,true⟩:=by kernel_rfl
theorem ah1:ak Tryd.prog 16 = some ⟨.pointer 130,1,8,some [.pointer none],false,false,true⟩:=by kernel_rfl
theorem ah7:ak Tryd.prog 17 = some ⟨.pointer 139,1,8,some [.pointer none],false,false,true⟩:=by kernel_rfl
theorem ak9:ak Tryd.prog 21 = some ⟨.int .i32,1,4,some [.int .i32 0],false,false,true⟩:=by kernel_rfl
theorem akh:ak Tryd.prog 22 = some ⟨.slice 88,1,24,some [.slice none 0 0],false,false,true⟩:=by kernel_rfl
theorem ajd:ak Tryd.prog 23 = some ⟨.struct [(0,5,false),(1,22,false)],2,32,some [.int .u8 0, .slice none 0 0],false,false,false⟩:=by kernel_rfl
theorem ak6:ak Tryd.prog 24 = some ⟨.struct [(0,5,false),(1,22,false)],2,32,some [.int .u8 0, .slice none 0 0],false,false,false⟩:=by kernel_rfl
theorem ait:ak Tryd.prog 25 = some ⟨.struct [(0,24,false),(2,22,false)],3,56,some [.int .u8 0, .slice none 0 0, .slice none 0 0],false,false,false⟩:=by kernel_rfl
theorem ahk:ak Tryd.prog 26 = some ⟨.struct [(0,24,false),(2,22,false)],3,56,some [.int .u8 0, .slice none 0 0, .slice none 0 0],false,false,false⟩:=by kernel_rfl
theorem akc:ak Tryd.prog 27 = some ⟨.array 2 5,2,2,some [.int .u8 0, .int .u8 0],false,false,false⟩:=by kernel_rfl
theorem aiy:ak Tryd.prog 28 = some ⟨.slice 42,1,24,some [.slice none 0 0],false,false,true⟩:=by kernel_rfl
theorem agm:ak Tryd.prog 29 = some ⟨.slice 44,1,24,some [.slice none 0 0],false,false,true⟩:=by kernel_rfl
theorem aio:ak Tryd.prog 31 = some ⟨.func,1,8,some [.nilFunc],false,false,true⟩:=by kernel_rfl
theorem agf:ak Tryd.prog 32 = some ⟨.func,1,8,some [.nilFunc],false,false,true⟩:=by kernel_rfl
theorem akk:ak Tryd.prog 33 = some ⟨.int .u32,1,4,some [.int .u32 0],false,false,true⟩:=by kernel_rfl
theorem ail:ak Tryd.prog 34 = some ⟨.int .u32,1,4,some [.int .u32 0],false,false,true⟩:=by kernel_rfl
theorem ak8:ak Tryd.prog 35 = some ⟨.func,1,8,some [.nilFunc],false,false,true⟩:=by kernel_rfl
theorem ak2:ak Tryd.prog 36 = some ⟨.slice 34,1,24,some [.slice none 0 0],false,false,true⟩:=by kernel_rfl
theorem agj:ak Tryd.prog 37 = some ⟨.int .i64,1,8,some [.int .i64 0],false,false,true⟩:=by kernel_rfl
theorem ah3:ak Tryd.prog 39 = some ⟨.func,1,8,some [.nilFunc],false,false,true⟩:=by kernel_rfl
theorem ag4:ak Tryd.prog 40 = some ⟨.func,1,8,some [.nilFunc],false,false,true⟩:=by kernel_rfl
theorem ak0:ak Tryd.prog 41 = some ⟨.struct [(0,34,false),(1,34,false)],2,8,some [.int .u32 0, .int .u32 0],false,false,false⟩:=by kernel_rfl
theorem aj8:ak Tryd.prog 42 = some ⟨.struct [(0,34,false),(1,34,false)],2,8,some [.int .u32 0, .int .u32 0],false,false,false⟩:=by kernel_rfl
theorem agk:ak Tryd.prog 43 = some ⟨.func,1,8,some [.nilFunc],false,false,true⟩:=by kernel_rfl
theorem akb:ak Tryd.prog 44 = some ⟨.struct [(0,34,false),(1,34,false)],2,8,some [.int .u32 0, .int .u32 0],false,false,false⟩:=by kernel_rfl
theorem agy:ak Tryd.prog 45 = some ⟨.func,1,8,some [.nilFunc],false,false,true⟩:=by kernel_rfl
theorem akd:ak Tryd.prog 46 = some ⟨.func,1,8,some [.nilFunc],false,false,true⟩:=by kernel_rfl
theorem aj9:ak Tryd.prog 47 = some ⟨.func,1,8,some [.nilFunc],false,false,true⟩:=by kernel_rfl
theorem ajc:ak Tryd.prog 49 = some ⟨.func,1,8,some [.nilFunc],false,false,true⟩:=by kernel_rfl
theorem ah4:ak Tryd.prog 51 = some ⟨.func,1,8,some [.nilFunc],false,false,true⟩:=by kernel_rfl
theorem ak3:ak Tryd.prog 53 = some ⟨.func,1,8,some [.nilFunc],false,false,true⟩:=by kernel_rfl
theorem ajh:ak Tryd.prog 54 = some ⟨.func,1,8,some [.nilFunc],false,false,true⟩:=by kernel_rfl
theorem aim:ak Tryd.prog 55 = some ⟨.func,1,8,some [.nilFunc],false,false,true⟩:=by kernel_rfl
theorem aj5:ak Tryd.prog 57 = some ⟨.func,1,8,some [.nilFunc],false,false,true⟩:=by kernel_rfl
theorem ahs:ak Tryd.prog 58 = some ⟨.func,1,8,some [.nilFunc],false,false,true⟩:=by kernel_rfl
theorem aiv:ak Tryd.prog 59 = some ⟨.func,1,8,some [.nilFunc],false,false,true⟩:=by kernel_rfl
theorem ah9:ak Tryd.prog 60 = some ⟨.func,1,8,some [.nilFunc],false,false,true⟩:=by kernel_rfl
theorem ags:ak Tryd.prog 61 = some ⟨.func,1,8,some [.nilFunc],false,false,true⟩:=by kernel_rfl
theorem aki:ak Tryd.prog 62 = some ⟨.func,1,8,some [.nilFunc],false,false,true⟩:=by kernel_rfl
theorem air:ak Tryd.prog 63 = some ⟨.func,1,8,some [.nilFunc],false,false,true⟩:=by kernel_rfl
theorem ajj:ak Tryd.prog 64 = some ⟨.func,1,8,some [.nilFunc],false,false,true⟩:=by kernel_rfl
theorem ajx:ak Tryd.prog 66 = some ⟨.func,1,8,some [.nilFunc],false,false,true⟩:=by kernel_rfl
theorem ahm:ak Tryd.prog 67 = some ⟨.func,1,8,some [.nilFunc],false,false,true⟩:=by kernel_rfl
theorem ahv:ak Tryd.prog 68 = some ⟨.func,1,8,some [.nilFunc],false,false,true⟩:=by kernel_rfl
theorem age:ak Tryd.prog 69 = some ⟨.slice 3,1,24,some [.slice none 0 0],false,false,true⟩:=by kernel_rfl
theorem ai8:ak Tryd.prog 70 = some ⟨.func,1,8,some [.nilFunc],false,false,true⟩:=by kernel_rfl
theorem ahl:ak Tryd.prog 71 = some ⟨.func,1,8,some [.nilFunc],false,false,true⟩:=by kernel_rfl
theorem ahz:ak Tryd.prog 72 = some ⟨.func,1,8,some [.nilFunc],false,false,true⟩:=by kernel_rfl
theorem aib:ak Tryd.prog 73 = some ⟨.func,1,8,some [.nilFunc],false,false,true⟩:=by kernel_rfl
theorem ag1:ak Tryd.prog 74 = some ⟨.func,1,8,some [.nilFunc],false,false,true⟩:=by kernel_rfl
theorem ag2:ak Tryd.prog 75 = some ⟨.func,1,8,some [.nilFunc],false,false,true⟩:=by kernel_rfl
theorem akf:ak Tryd.prog 76 = some ⟨.func,1,8,some [.nilFunc],false,false,true⟩:=by kernel_rfl
theorem akj:ak Tryd.prog 77 = some ⟨.struct [(0,36,false)],1,24,some [.slice none 0 0],false,false,false⟩:=by kernel_rfl
theorem ajk:ak Tryd.prog 78 = some ⟨.struct [(0,36,false)],1,24,some [.slice none 0 0],false,false,false⟩:=by kernel_rfl
theorem ajo:ak Tryd.prog 79 = some ⟨.func,1,8,some [.nilFunc],false,false,true⟩:=by kernel_rfl
theorem akg:ak Tryd.prog 80 = some ⟨.func,1,8,some [.nilFunc],false,false,true⟩:=by kernel_rfl
theorem agp:ak Tryd.prog 81 = some ⟨.func,1,8,some [.nilFunc],false,false,true⟩:=by kernel_rfl
theorem aht:ak Tryd.prog 82 = some ⟨.func,1,8,some [.nilFunc],false,false,true⟩:=by kernel_rfl
theorem aj4:ak Tryd.prog 83 = some ⟨.func,1,8,some [.nilFunc],false,false,true⟩:=by kernel_rfl
theorem agb:ak Tryd.prog 84 = some ⟨.int .u64,1,8,some [.int .u64 0],false,false,true⟩:=by kernel_rfl
theorem aiu:ak Tryd.prog 85 = some ⟨.func,1,8,some [.nilFunc],false,false,true⟩:=by kernel_rfl
theorem ai7:ak Tryd.prog 86 = some ⟨.func,1,8,some [.nilFunc],false,false,true⟩:=by kernel_rfl
theorem aka:ak Tryd.prog 87 = some ⟨.struct [(0,5,false),(1,5,false)],2,2,some [.int .u8 0, .int .u8 0],false,false,false⟩:=by kernel_rfl
theorem ajv:ak Tryd.prog 88 = some ⟨.struct [(0,5,false),(1,5,false)],2,2,some [.int .u8 0, .int .u8 0],false,false,false⟩:=by kernel_rfl
theorem ajs:ak Tryd.prog 89 = some ⟨.func,1,8,some [.nilFunc],false,false,true⟩:=by kernel_rfl
theorem agz:ak Tryd.prog 90 = some ⟨.func,1,8,some [.nilFunc],false,false,true⟩:=by kernel_rfl
theorem aig:ak Tryd.prog 91 = some ⟨.func,1,8,some [.nilFunc],false,false,true⟩:=by kernel_rfl
theorem aic:ak Tryd.prog 92 = some ⟨.func,1,8,some [.nilFunc],false,false,true⟩:=by kernel_rfl
theorem aj2:ak Tryd.prog 93 = some ⟨.int .u64,1,8,some [.int .u64 0],false,false,true⟩:=by kernel_rfl
theorem ajw:ak Tryd.prog 94 = some ⟨.func,1,8,some [.nilFunc],false,false,true⟩:=by kernel_rfl
theorem aiq:ak Tryd.prog 95 = some ⟨.func,1,8,some [.nilFunc],false,false,true⟩:=by kernel_rfl
theorem aia:ak Tryd.prog 96 = some ⟨.func,1,8,some [.nilFunc],false,false,true⟩:=by kernel_rfl
theorem aho:ak Tryd.prog 97 = some ⟨.func,1,8,some [.nilFunc],false,false,true⟩:=by kernel_rfl
theorem ag5:ak Tryd.prog 98 = some ⟨.func,1,8,some [.nilFunc],false,false,true⟩:=by kernel_rfl
theorem agn:ak Tryd.prog 99 = some ⟨.func,1,8,some [.nilFunc],false,false,true⟩:=by kernel_rfl
theorem aci:ak Tryd.prog 100 = some ⟨.func,1,8,some [.nilFunc],false,false,true⟩:=by kernel_rfl
theorem af0:ak Tryd.prog 101 = some ⟨.func,1,8,some [.nilFunc],false,false,true⟩:=by kernel_rfl
theorem ad0:ak Tryd.prog 102 = some ⟨.func,1,8,some [.nilFunc],false,false,true⟩:=by kernel_rfl
theorem afq:ak Tryd.prog 103 = some ⟨.int .i64,1,8,some [.int .i64 0],false,false,true⟩:=by kernel_rfl
theorem afg:ak Tryd.prog 105 = some ⟨.func,1,8,some [.nilFunc],false,false,true⟩:=by kernel_rfl
theorem afj:ak Tryd.prog 106 = some ⟨.func,1,8,some [.nilFunc],false,false,true⟩:=by kernel_rfl
theorem afk:ak Tryd.prog 107 = some ⟨.func,1,8,some [.nilFunc],false,false,true⟩:=by kernel_rfl
theorem adh:ak Tryd.prog 109 = some ⟨.func,1,8,some [.nilFunc],false,false,true⟩:=by kernel_rfl
theorem aea:ak Tryd.prog 110 = some ⟨.func,1,8,some [.nilFunc],false,false,true⟩:=by kernel_rfl
theorem ae9:ak Tryd.prog 111 = some ⟨.func,1,8,some [.nilFunc],false,false,true⟩:=by kernel_rfl
theorem aed:ak Tryd.prog 112 = some ⟨.pointer 78,1,8,some [.pointer none],false,false,true⟩:=by kernel_rfl
theorem aeh:ak Tryd.prog 113 = some ⟨.func,1,8,some [.nilFunc],false,false,true⟩:=by kernel_rfl
theorem ad5:ak Tryd.prog 114 = some ⟨.func,1,8,some [.nilFunc],false,false,true⟩:=by kernel_rfl
theorem acz:ak Tryd.prog 115 = some ⟨.array 32 5,32,32,some [.int .u8 0, .int .u8 0, .int .u8 0, .int .u8 0, .int .u8 0, .int .u8 0, .int .u8 0, .int .u8 0, .int .u8 0, .int .u8 0, .int .u8 0, .int .u8 0, .int .u8 0, .int .u8 0, .int .u8 0, .int .u8 0, .int .u8 0, .int .u8 0, .int .u8 0, .int .u8 0, .int .u8 0, .int .u8 0, .int .u8 0, .int .u8 0, .int .u8 0, .int .u8 0, .int .u8 0, .int .u8 0, .int .u8 0, .int .u8 0, .int .u8 0, .int .u8 0],false,false,false⟩:=by kernel_rfl
theorem adu:ak Tryd.prog 116 = some ⟨.int .u64,1,8,some [.int .u64 0],false,false,true⟩:=by kernel_rfl
theorem afy:ak Tryd.prog 117 = some ⟨.func,1,8,some [.nilFunc],false,false,true⟩:=by kernel_rfl
theorem afz:ak Tryd.prog 118 = some ⟨.func,1,8,some [.nilFunc],false,false,true⟩:=by kernel_rfl
theorem adi:ak Tryd.prog 119 = some ⟨.func,1,8,some [.nilFunc],false,false,true⟩:=by kernel_rfl
theorem ae8:ak Tryd.prog 120 = some ⟨.pointer 3,1,8,some [.pointer none],false,false,true⟩:=by kernel_rfl
theorem af3:ak Tryd.prog 121 = some ⟨.func,1,8,some [.nilFunc],false,false,true⟩:=by kernel_rfl
theorem aeg:ak Tryd.prog 122 = some ⟨.pointer 116,1,8,some [.pointer none],false,false,true⟩:=by kernel_rfl
theorem aey:ak Tryd.prog 124 = some ⟨.func,1,8,some [.nilFunc],false,false,true⟩:=by kernel_rfl
theorem adv:ak Tryd.prog 125 = some ⟨.func,1,8,some [.nilFunc],false,false,true⟩:=by kernel_rfl
theorem adr:ak Tryd.prog 128 = some ⟨.array 0 16,0,0,some [],false,false,false⟩:=by kernel_rfl
theorem afa:ak Tryd.prog 131 = some ⟨.func,1,8,some [.nilFunc],false,false,true⟩:=by kernel_rfl
theorem aez:ak Tryd.prog 132 = some ⟨.int .u8,1,1,some [.int .u8 0],false,false,true⟩:=by kernel_rfl
theorem aes:ak Tryd.prog 133 = some ⟨.int .u8,1,1,some [.int .u8 0],false,false,true⟩:=by kernel_rfl
theorem afo:ak Tryd.prog 134 = some ⟨.func,1,8,some [.nilFunc],false,false,true⟩:=by kernel_rfl
theorem afh:ak Tryd.prog 135 = some ⟨.pointer 5,1,8,some [.pointer none],false,false,true⟩:=by kernel_rfl
theorem acu:ak Tryd.prog 136 = some ⟨.int .i32,1,4,some [.int .i32 0],false,false,true⟩:=by kernel_rfl
theorem acg:ak Tryd.prog 137 = some ⟨.int .i32,1,4,some [.int .i32 0],false,false,true⟩:=by kernel_rfl
theorem aje:aaj Tryd.prog a3v 0:=⟨amf,⟨ami,⟨anl,⟨amj,⟨amu,⟨als,⟨anh,⟨anf,⟨ame,⟨aie,⟨aja,⟨aji,⟨ahq,⟨ah1,⟨ah7,⟨ak9,⟨akh,⟨ajd,⟨ak6,⟨ait,⟨ahk,⟨akc,⟨aiy,⟨agm,⟨aio,⟨agf,⟨akk,⟨ail,⟨ak8,⟨ak2,⟨agj,⟨ah3,⟨ag4,⟨ak0,⟨aj8,⟨agk,⟨akb,⟨agy,⟨akd,⟨aj9,⟨ajc,⟨ah4,⟨ak3,⟨ajh,⟨aim,⟨aj5,⟨ahs,⟨aiv,⟨ah9,⟨ags,⟨aki,⟨air,⟨ajj,⟨ajx,⟨ahm,⟨ahv,⟨age,⟨ai8,⟨ahl,⟨ahz,⟨aib,⟨ag1,⟨ag2,⟨akf,⟨akj,⟨ajk,⟨ajo,⟨akg,⟨agp,⟨aht,⟨aj4,⟨agb,⟨aiu,⟨ai7,⟨aka,⟨ajv,⟨ajs,⟨agz,⟨aig,⟨aic,⟨aj2,⟨ajw,⟨aiq,⟨aia,⟨aho,⟨ag5,⟨agn,⟨aci,⟨af0,⟨ad0,⟨afq,⟨afg,⟨afj,⟨afk,⟨adh,⟨aea,⟨ae9,⟨aed,⟨aeh,⟨ad5,⟨acz,⟨adu,⟨afy,⟨afz,⟨adi,⟨ae8,⟨af3,⟨aeg,⟨aey,⟨adv,⟨adr,⟨afa,⟨aez,⟨aes,⟨afo,⟨afh,⟨acu,⟨acg,trivial⟩⟩⟩⟩⟩⟩⟩⟩⟩⟩⟩⟩⟩⟩⟩⟩⟩⟩⟩⟩⟩⟩⟩⟩⟩⟩⟩⟩⟩⟩⟩⟩⟩⟩⟩⟩⟩⟩⟩⟩⟩⟩⟩⟩⟩⟩⟩⟩⟩⟩⟩⟩⟩⟩⟩⟩⟩⟩⟩⟩⟩⟩⟩⟩⟩⟩⟩⟩⟩⟩⟩⟩⟩⟩⟩⟩⟩⟩⟩⟩⟩⟩⟩⟩⟩⟩⟩⟩⟩⟩⟩⟩⟩⟩⟩⟩⟩⟩⟩⟩⟩⟩⟩⟩⟩⟩⟩⟩⟩⟩⟩⟩⟩⟩⟩⟩⟩⟩
theorem ai:bm Tryd.prog dg:=fun t i h=>by
 have:=w5 aje t i h
 rwa [Nat.zero_add] at this
theorem c7:Tryd.prog.follows .mixedOrders = true:=by kernel_rfl
end Go.Hx
namespace Go.Hx
open Go.Proofs
section
variable {ro:Option Nat} {P:Program} {E:Env} {nt:Nat} {ops:Array Oper} {i:Nat} {o:Oper} {st:HSt} {L:List Nat} {K:List Tr → HSt → Prop} {Q:Exit → HSt → Prop}
theorem qy {out:Out} {gb:Bool} (hT:Reg P E nt ops L (st.after o.dst (some out.val) []) fun T sf=>K (⟨i,a0b true out.val.ids,looks st.den o,bj st.den o.dst [],d2 E st.den o⟩ :: T) sf)
 (hi:ops[i]? = some o:=by exact rfl) (hw:aw ops st.den o = some gb:=by exact rfl) (hd:cg nt o.dst = true:=by exact rfl) (hq':hq E true st.den.o (ev st.den) o.op = some out:=by exact rfl) (hg:gb = true:=by exact rfl)
 (hp:out.pre:=by first | exact trivial | (simp only [du,inR,im,j7];omega) | exact a7l _ _ | exact ⟨trivial,trivial⟩ | exact ⟨trivial,Nat.le_of_ble_eq_true rfl⟩ | (try dsimp only) <;> ((repeat' apply And.intro) <;> first | trivial | rfl | omega | (simp only [eo,bt];omega) | assumption | exact Nat.le_of_ble_eq_true rfl)) :
 Reg P E nt ops (i :: L) st K:=bv true hi hw hd hq' hg hp hT
theorem k9 {gb:Bool} (hg:gb = false) (hT:Reg P E nt ops L (st.after o.dst (some (.tup [])) []) fun T sf=>K (⟨i,a0b true [],looks st.den o,bj st.den o.dst [],none⟩ :: T) sf)
 (hi:ops[i]? = some o:=by exact rfl) (hw:aw ops st.den o = some gb:=by exact rfl) (hd:cg nt o.dst = true:=by exact rfl):Reg P E nt ops (i :: L) st K:=a95 hi hw hd hg hT
theorem m9 (id:Nat) {nw:New} {gb:Bool} (hT:Reg P E nt ops L (st.after o.dst (some nw.val) [(id,some nw.ob)]) fun T sf=>K (⟨i,⟨id,false,true, .tup [],[id],[id],nw.val.ids ++ nw.ob.ids⟩,looks st.den o,bj st.den o.dst [(id,some nw.ob)],none⟩ :: T) sf)
 (hi:ops[i]? = some o:=by exact rfl) (hw:aw ops st.den o = some gb:=by exact rfl) (hd:cg nt o.dst = true:=by exact rfl) (hq':ha E (ev st.den) id o.op = some nw:=by exact rfl) (hn:pe id st = true:=by exact rfl) (hg:gb = true:=by exact rfl)
 (hp:nw.pre:=by first | exact trivial | (try dsimp only) <;> ((repeat' apply And.intro) <;> first | trivial | rfl | omega | assumption)):Reg P E nt ops (i :: L) st K:=sr id hi hw hd hq' hn hg hp hT
theorem s9 {u:Upd} {gb:Bool} (hT:Reg P E nt ops L (st.after o.dst none [(u.id,some u.ob)]) fun T sf=>K (⟨i,⟨0,false,true, .tup [],[u.id],[],u.ob.ids⟩,looks st.den o,bj st.den o.dst [(u.id,some u.ob)],d2 E st.den o⟩ :: T) sf)
 (hi:ops[i]? = some o:=by exact rfl) (hw:aw ops st.den o = some gb:=by exact rfl) (hd:cg nt o.dst = true:=by exact rfl) (hq':hs E st.den.o (ev st.den) o.op = some u:=by exact rfl) (hg:gb = true:=by exact rfl)
 (hp:u.pre:=by first | exact Nat.le_of_ble_eq_true rfl | (try dsimp only) <;> ((repeat' apply And.intro) <;> first | trivial | rfl | omega | (simp only [eo,bt];omega) | assumption | exact Nat.le_of_ble_eq_true rfl)):Reg P E nt ops (i :: L) st K:=a5k hi hw hd hq' hg hp hT
theorem f9 {rs:List ResultVar} {res:List PC} {p q:Prop} {l:List HC} {vs:List PC} (h1:rt E st.den rs = some (p,l)) (h2:k6 st.den.o l = some (q,vs)) (hc:CoL vs res)
 (hp:p:=by (repeat' apply And.intro) <;> first | trivial | exact Nat.le_of_ble_eq_true rfl | rfl) (hq:q:=by (repeat' apply And.intro) <;> first | trivial | exact Nat.le_of_ble_eq_true rfl | rfl):abw E st rs res:=⟨p,l,q,vs,h1,hp,h2,hq,hc⟩
theorem c9 {f:Option HR} {x:HR} (h:f = some x:=by exact rfl):∃ y,f = some y ∧ CoR y x:=⟨x,h,CoR.refl x⟩
theorem u9 {f:Option ab} {x:ab} (h:f = some x:=by exact rfl):∃ y,f = some y ∧ CoO y x:=⟨x,h,CoO.refl x⟩
theorem zy {f:Option HR} {x y:HR} (h:f = some y:=by exact rfl) (c:CoR y x:=by first | exact CoR.refl _ | exact coi (by omega) | exact cob (by simp_all)):∃ y,f = some y ∧ CoR y x:=⟨y,h,c⟩
theorem l9 {a b:Nat} (h:Nat.ble a b = true:=by exact rfl):a ≤ b:=Nat.le_of_ble_eq_true h
theorem ty {n:Nat}:((n:Nat):Int).toNat = n:=Int.toNat_natCast n
end
theorem gy {ro:Option Nat} {nt id:Nat} {ops:Array Oper} {st:HSt} {Q:Exit → HSt → Prop} (h:Reg Tryd.prog dg nt ops (List.range ops.size) st fun _ sf=>Q .normal sf):HW (ro:=ro) Tryd.prog nt (.region id ops false) st Q:=a3r ai h
end Go.Hx
namespace Go.Hx
open Go.Proofs
theorem sx7 {ro:Option Nat} {nt id:Nat} {ops:Array Oper} {st:HSt} {y:Code} {Q:Exit → HSt → Prop} (h:Reg Tryd.prog dg nt ops (List.range ops.size) st fun _ sf=>apo (ro:=ro) Tryd.prog nt y Q .normal sf):HW (ro:=ro) Tryd.prog nt (.seq (.region id ops false) y) st Q:=a7 (a3r ai h)
theorem hx8 {ro:Option Nat} {P:Program} {E:Env} {nt:Nat} {st:HSt} {Q:Exit → HSt → Prop} {rs:List ResultVar} {res:List PC} {p q:Prop} {l:List HC} {vs:List PC} (hQ:Q .ret st = ((Exit.ret = .normal ∨ Exit.ret = .ret) ∧ abw E st rs res)) (h1:rt E st.den rs = some (p,l)) (h2:k6 st.den.o l = some (q,vs)) (hc:CoL vs res)
 (hp:p:=by (repeat' apply And.intro) <;> first | trivial | exact Nat.le_of_ble_eq_true rfl | rfl) (hq:q:=by (repeat' apply And.intro) <;> first | trivial | exact Nat.le_of_ble_eq_true rfl | rfl):HW (ro:=ro) P nt .ret st Q:=dc (hQ ▸ ⟨.inr rfl,p,l,q,vs,h1,hp,h2,hq,hc⟩)
end Go.Hx
end
section
namespace Go.Hx
open Go.Proofs Go.Lib Go.RowKit
def aur (k:Nat) (xs vs:List Value):List Value:=xs.take k ++ vs ++ xs.drop k
structure at7 (w w':World) (T s:Nat) (own v:Value) (n:Nat) (xs:List Value):Prop where
 row:w'.ownsRow 0 T s v (n + 1) xs
 bl:Below 0 w w'
 out:∀ g,g < w.heap.size → c5 own ≠ some g → w'.heap[g]? = w.heap[g]?
 at_:∀ g,c5 v = some g → w.heap.size ≤ g ∨ c5 own = some g
def atz (i:Nat) (F G:Nat → Nat → PV):Nat → Nat → PV:=fun k j=>if k < i then F k j else if k = i then G 0 j else F (k - 1) j
theorem wk {id q:Nat} {x ob:ab} (h:lk [(q,x)] id = some ob):id = q ∧ ob = x:=by
 simp only [lk] at h
 by_cases hk:q = id
 · subst hk
   simp at h
   exact ⟨rfl,h.symm⟩
 · have:Nat.beq q id = false:=by
    rw [Bool.eq_false_iff];exact fun hb=>hk (Nat.eq_of_beq_eq_true hb)
   rw [this] at h
   cases h
structure atx (c:Ctx) (w w':World) (T s a:Nat) (v:Value) (n:Nat) (ys:List Value):Prop where
 row:w'.ownsRow 0 T s v (n + 1) ys
 bl:Below 0 w w'
 out:∀ g,g < w.heap.size → ¬ c.blk a g → w'.heap[g]? = w.heap[g]?
 at_:∀ g,c5 v = some g → w.heap.size ≤ g ∨ c.blk a g
def HE (nt:Nat) (st:HSt) (Q:HSt → Prop):Prop:=∀ w0 m0 a w,Rel w0 m0 nt st.den a w → ∃ st':HSt,Q st' ∧ Rel w0 m0 nt st'.den a w
theorem a9e {nt:Nat} {st:HSt} {Q:HSt → Prop} (h:Q st):HE nt st Q:=fun _ _ _ _ hr=>⟨st,h,hr⟩
end Go.Hx
end
section
namespace Go.Hx
open Go.RowKit
abbrev AS:=BitVec 32
abbrev asI (s:AS):Int:=(s.toNat:Int)
def asC (s:AS):PV:=.raw (.int .u32 (asI s))
theorem a7n {n:Int} (h0:0 ≤ n) (h1:n < 4294967296):IntKind.wrap .u32 n = n:=mi (by simp only [inR,im,j7];omega)
theorem a63 (s:AS):asI s < 4294967296:=by
 have:=s.isLt
 unfold asI
 omega
theorem a1g (s:AS):0 ≤ asI s:=Int.natCast_nonneg _
theorem io (s:AS):BitVec.ofInt 32 (asI s) = s:=by
 unfold asI
 rw [BitVec.ofInt_natCast,BitVec.ofNat_toNat,BitVec.setWidth_eq]
theorem dt {a b:AS}:asI a = asI b ↔ a = b:=by
 unfold asI
 rw [Int.ofNat_inj]
 exact BitVec.toNat_inj
theorem uv (s:AS):IntKind.wrap .u32 (s.toNat:Int) = asI s:=a7n (a1g s) (a63 s)
theorem fc (a b:AS):bz .and .u32 (asI a) (asI b) = asI (a &&& b):=by
 show IntKind.wrap .u32 ((BitVec.ofInt 32 (asI a) &&& BitVec.ofInt 32 (asI b)).toNat:Int) = _
 rw [io,io,uv]
theorem bOr (a b:AS):bz .or .u32 (asI a) (asI b) = asI (a ||| b):=by
 show IntKind.wrap .u32 ((BitVec.ofInt 32 (asI a) ||| BitVec.ofInt 32 (asI b)).toNat:Int) = _
 rw [io,io,uv]
theorem ab5 (a b:AS):bz .xor .u32 (asI a) (asI b) = asI (a ^^^ b):=by
 show IntKind.wrap .u32 ((BitVec.ofInt 32 (asI a) ^^^ BitVec.ofInt 32 (asI b)).toNat:Int) = _
 rw [io,io,uv]
theorem fw (a b:AS):bz .andNot .u32 (asI a) (asI b) = asI (a &&& ~~~b):=by
 show IntKind.wrap .u32 ((BitVec.ofInt 32 (asI a) &&& ~~~BitVec.ofInt 32 (asI b)).toNat:Int) = _
 rw [io,io,uv]
theorem un (a:AS) (n:Nat):(asI a).fdiv (2 ^ (min n 32)) = asI (a >>> n):=by
 have e:(2:Int) ^ (min n 32) = ((2 ^ (min n 32):Nat):Int):=by rw [Int.natCast_pow];rfl
 rw [e]
 unfold asI
 rw [Int.fdiv_eq_ediv_of_nonneg _ (Int.natCast_nonneg _),← Int.natCast_ediv,BitVec.toNat_ushiftRight,Nat.shiftRight_eq_div_pow]
 by_cases h:n ≤ 32
 · rw [Nat.min_eq_left h]
 · rw [Nat.min_eq_right (by omega)]
   have h1:=a.isLt
   have h2:2 ^ 32 ≤ 2 ^ n:=Nat.pow_le_pow_right (by omega) (by omega)
   rw [Nat.div_eq_of_lt (by omega),Nat.div_eq_of_lt (Nat.lt_of_lt_of_le (by omega) h2)]
theorem ahr (a:AS) (n:Nat):IntKind.wrap .u32 (asI a * 2 ^ (min n 32)) = asI (a <<< n):=by
 have e:asI a * (2:Int) ^ (min n 32) = ((a.toNat * 2 ^ (min n 32):Nat):Int):=by rw [Int.natCast_mul,Int.natCast_pow];rfl
 rw [e]
 have hw:∀ m:Nat,IntKind.wrap .u32 (m:Int) = ((m % 4294967296:Nat):Int):=by
  intro m
  simp [IntKind.wrap,IntKind.signed,IntKind.bits]
 rw [hw]
 unfold asI
 rw [BitVec.toNat_shiftLeft,Nat.shiftLeft_eq]
 by_cases h:n ≤ 32
 · rw [Nat.min_eq_left h]
 · rw [Nat.min_eq_right (by omega)]
   have h1:a.toNat * 2 ^ 32 % 2 ^ 32 = 0:=Nat.mul_mod_left _ _
   have h2:a.toNat * 2 ^ n % 2 ^ 32 = 0:=by
    obtain ⟨k,rfl⟩:∃ k,n = k + 32:=⟨n - 32,by omega⟩
    rw [Nat.pow_add,← Nat.mul_assoc]
    exact Nat.mul_mod_left _ _
   have h1:a.toNat * 2 ^ 32 % 4294967296 = 0:=h1
   rw [h1,h2]
end Go.Hx
end
section
namespace Go.Hx
structure Fd where
 lhs:AS
 rhs:AS
instance:Inhabited Fd:=⟨⟨0,0⟩⟩
theorem Fd.eq_iff {a b:Fd}:a = b ↔ a.lhs = b.lhs ∧ a.rhs = b.rhs:=by cases a;cases b;simp
instance:DecidableEq Fd:=fun a b=>decidable_of_iff _ (Fd.eq_iff (a:=a) (b:=b)).symm
def Fd.c (x:Fd):Nat → PV
 | 0=>asC x.lhs
 | 1=>asC x.rhs
 | _=>.any
def sub (a b:AS):Prop:=a &&& ~~~b = 0
instance:DecidablePred fun p:AS × AS=>sub p.1 p.2:=fun p=>inferInstanceAs (Decidable (_ = _))
instance {a b:AS}:Decidable (sub a b):=inferInstanceAs (Decidable (_ = _))
theorem ar {a b:AS}:sub a b ↔ ∀ i,i < 32 → a.getLsbD i = true → b.getLsbD i = true:=by
 unfold sub
 constructor
 · intro h i hi ha
   have:=congrArg (fun x:AS=>x.getLsbD i) h
   simp only [BitVec.getLsbD_and,BitVec.getLsbD_not,hi,ha,decide_true,Bool.true_and] at this
   simpa using this
 · intro h
   apply BitVec.eq_of_getLsbD_eq
   intro i hi
   have:=h i hi
   simp only [BitVec.getLsbD_and,BitVec.getLsbD_not,hi,decide_true,Bool.true_and]
   cases ha:a.getLsbD i <;> cases hb:b.getLsbD i <;> simp_all
theorem gt (a:AS):sub a a:=ar.2 fun _ _ h=>h
theorem l8 {a b c:AS} (h:sub a b) (k:sub b c):sub a c:=ar.2 fun i hi ha=>ar.1 k i hi (ar.1 h i hi ha)
theorem ui {a b:AS}:sub a (a ||| b):=ar.2 fun i hi ha=>by simp [ha]
theorem a0l {a b:AS}:sub b (a ||| b):=ar.2 fun i hi ha=>by simp [ha]
theorem pn {a b c:AS} (h:sub a c) (k:sub b c):sub (a ||| b) c:=ar.2 fun i hi ha=>by
 rw [BitVec.getLsbD_or,Bool.or_eq_true] at ha
 rcases ha with ha | ha
 · exact ar.1 h i hi ha
 · exact ar.1 k i hi ha
theorem dw {a b:AS} (h:sub a b) (k:sub b a):a = b:=by
 apply BitVec.eq_of_getLsbD_eq
 intro i hi
 have h1:=ar.1 h i hi
 have h2:=ar.1 k i hi
 cases ha:a.getLsbD i <;> cases hb:b.getLsbD i <;> simp_all
theorem a64 {a b:AS} (h:sub a b):a.toNat ≤ b.toNat:=by
 have e:a ||| b = b:=dw (pn h (gt b)) a0l
 have:a.toNat ≤ (a ||| b).toNat:=by rw [BitVec.toNat_or];exact Nat.left_le_or
 rwa [e] at this
theorem a7c {a b:AS} (h:sub a b) (hne:a ≠ b):a.toNat < b.toNat:=by
 rcases Nat.lt_or_eq_of_le (a64 h) with h | h
 · exact h
 · exact absurd (BitVec.eq_of_toNat_eq h) hne
theorem am3 {a b:AS}:sub a b ↔ a &&& b = a:=by
 rw [ar]
 constructor
 · intro h
   apply BitVec.eq_of_getLsbD_eq
   intro i hi
   have:=h i hi
   rw [BitVec.getLsbD_and]
   cases ha:a.getLsbD i <;> simp_all
 · intro h i hi ha
   have:=congrArg (fun x:AS=>x.getLsbD i) h
   simp only [BitVec.getLsbD_and,ha,Bool.true_and] at this
   exact this
def fm (s:AS) (f:Fd):AS:=if sub f.lhs s then s ||| f.rhs else s
def jg (l:List Fd) (s:AS):AS:=l.foldl fm s
theorem a1l {s:AS} {f:Fd}:sub s (fm s f):=by
 unfold fm
 split
 · exact ui
 · exact gt s
theorem rh:∀ {l:List Fd} {s:AS},sub s (jg l s)
 | [],s=>gt s
 | f :: l,s=>l8 a1l (rh (l:=l) (s:=fm s f))
def clF (l:List Fd):Nat → AS → AS
 | 0,s=>s
 | n + 1,s=>if jg l s = s then s else clF l n (jg l s)
def clo (l:List Fd) (s:AS):AS:=clF l 4294967296 s
theorem a0y {l:List Fd}:∀ {n:Nat} {s:AS},4294967296 - s.toNat ≤ n → jg l (clF l n s) = clF l n s
 | 0,s,hn=>by have:=s.isLt;omega
 | n + 1,s,hn=>by
  unfold clF
  split
  · assumption
  · rename_i hne
    have:=a7c (rh (l:=l) (s:=s)) (fun e=>hne e.symm)
    exact a0y (by omega)
theorem abh {l:List Fd} {s:AS}:jg l (clo l s) = clo l s:=a0y (by omega)
theorem afc {l:List Fd}:∀ {n:Nat} {s:AS},sub s (clF l n s)
 | 0,s=>gt s
 | n + 1,s=>by
  unfold clF
  split
  · exact gt s
  · exact l8 rh afc
theorem acx {l:List Fd} {s:AS}:sub s (clo l s):=afc
def n3 (l:List Fd) (s:AS):Prop:=∀ f ∈ l,sub f.lhs s → sub f.rhs s
theorem nr:∀ {l:List Fd} {s:AS},jg l s = s ↔ n3 l s
 | [],s=>⟨fun _ f hf=>(by cases hf),fun _=>rfl⟩
 | f :: l,s=>by
  constructor
  · intro h
    have h1:fm s f = s:=dw (by have:=rh (l:=l) (s:=fm s f);rw [show jg l (fm s f) = s from h] at this;exact this) a1l
    have h2:jg l s = s:=by
     have:jg l (fm s f) = s:=h
     rwa [h1] at this
    intro g hg
    rcases List.mem_cons.1 hg with rfl | hg
    · intro hl
      rw [fm,if_pos hl] at h1
      rw [← h1]
      exact a0l
    · exact nr.1 h2 g hg
  · intro h
    have h1:fm s f = s:=by
     unfold fm
     split
     · rename_i hl
       exact dw (pn (gt s) (h f (List.mem_cons_self ..) hl)) ui
     · rfl
    show jg l (fm s f) = s
    rw [h1]
    exact nr.2 fun g hg=>h g (List.mem_cons_of_mem _ hg)
theorem a2e:∀ {l:List Fd} {s t:AS},n3 l t → sub s t → sub (jg l s) t
 | [],s,t,_,h=>h
 | f :: l,s,t,ht,h=>a2e (l:=l) (fun g hg=>ht g (List.mem_cons_of_mem _ hg)) (by
  unfold fm
  split
  · rename_i hl
    exact pn h (ht f (List.mem_cons_self ..) (l8 hl h))
  · exact h)
theorem aa2 {l:List Fd} {t:AS} (ht:n3 l t):∀ {n:Nat} {s:AS},sub s t → sub (clF l n s) t
 | 0,s,h=>h
 | n + 1,s,h=>by
  unfold clF
  split
  · exact h
  · exact aa2 ht (a2e ht h)
theorem a4k {l:List Fd} {s t:AS} (ht:n3 l t) (h:sub s t):sub (clo l s) t:=aa2 ht h
theorem vu {l:List Fd} {s:AS}:n3 l (clo l s):=nr.1 abh
end Go.Hx
end
section
namespace Go.Hx
abbrev pI (a:Int):PC:=.one (.raw (.int .i64 a))
abbrev pB (b:Bool):PC:=.one (.raw (.bool b))
abbrev pP (x:PV):PC:=.one x
abbrev pA (s:AS):PC:=.one (.raw (.int .u32 (asI s)))
abbrev fdl (l:List Fd):PV:=psl 2 Fd.c l
abbrev asl (l:List AS):PV:=psl 1 (fun s _=>asC s) l
abbrev vI (a:Int):HR:=bd (.raw (.int .i64 a))
abbrev vA (s:AS):HR:=bd (.raw (.int .u32 (asI s)))
theorem a8m {a b:AS}:bz .andNot .u32 (asI a) (asI b) = 0 ↔ sub a b:=by
 rw [fw,show (0:Int) = asI 0 from rfl,dt]
 exact Iff.rfl
def inU (n:Int) (f:Fd):Bool:=decide ((f.lhs ||| f.rhs) >>> n.toNat = 0)
def cu (n:Int) (l:List Fd):Int:=if n < 0 ∨ 16 < n then 7 else if 64 < l.length then 3 else if l.all (inU n) = true then 0 else 1
theorem yh {n:Int} {f:Fd}:(bz .or .u32 (asI f.lhs) (asI f.rhs)).fdiv (2 ^ (min n.toNat 32)) = 0 ↔ inU n f = true:=by
 rw [bOr,un,show (0:Int) = asI 0 from rfl,dt]
 unfold inU
 rw [decide_eq_true_iff]
theorem fg {k:IntKind} {a b:Int} (h:a = b):CoR (bd (.raw (.int k a))) (bd (.raw (.int k b))):=by
 rw [h]
 exact CoR.refl _
def ja (n:Nat):AS:=(List.range n).foldl (fun s i=>s ||| ((1:AS) <<< i)) 0
def ah (n:Int):AS:=ja (min n.toNat 32)
theorem a2g (i:Nat):ja (i + 1) = ja i ||| ((1:AS) <<< i):=by
 unfold ja
 rw [List.range_succ,List.foldl_append]
 rfl
theorem adb (i:Nat):bz .or .u32 (asI (ja i)) (IntKind.wrap .u32 (1 * 2 ^ (min i 32))) = asI (ja (i + 1)):=by
 have e:IntKind.wrap .u32 (1 * 2 ^ (min i 32)) = asI ((1:AS) <<< i):=ahr 1 i
 rw [e,bOr,a2g]
end Go.Hx
end
section
namespace Go.Hx
open Go.Proofs
set_option maxRecDepth 100000
theorem aft:al Tryd.prog 28:=⟨Tryd.f28,Tryd.func28,by kernel_rfl,by kernel_rfl⟩
theorem ako (a b:AS):ao Tryd.prog 28 [pA a,pA b] (ay [pB (decide (sub a b))]):=by
 refine am (nt:=10) ai Tryd.func28 rfl rfl l9 ?_;refine sx7 ?_;refine qy ?_;refine a6 ?_;refine sx7 ?_;(iterate 6 refine qy ?_);refine a6 ?_
 exact hx8 rfl rfl rfl (⟨ccb (decide_eq_decide.2 (by rw [fc,dt];exact am3.symm)),trivial⟩)
theorem ap8:al Tryd.prog 53:=⟨Tryd.f53,Tryd.func53,by kernel_rfl,by kernel_rfl⟩
theorem aqd (n:Int) (l:List Fd):ao Tryd.prog 53 [pI n,pP (fdl l)] (ay [pI (cu n l)]):=by
 refine am (nt:=31) ai Tryd.func53 rfl rfl l9 ?_;refine a7 ?_
 refine kr 1 rfl fun hlen=>?_
 refine gy ?_;refine qy ?_;refine a6 ?_;refine a7 ?_;refine sx7 ?_;(iterate 3 refine qy ?_);refine ct rfl rfl (fun r0=>?_) (fun r0=>?_)
 ·
  have h0:=of_decide_eq_true r0
  try simp only [ty] at h0
  (iterate 2 refine k9 (gtf r0) ?_);refine rq rfl rfl rfl rfl rfl ?_ (hp:=r0);refine a6 ?_;refine a8 _ rfl (fun _=>?_) (fun e=>by cases e);refine sx7 ?_;refine qy ?_;refine a6 ?_
  exact hx8 rfl rfl rfl (⟨cci (by rw [cu,if_pos (by omega)]),trivial⟩)
 ·
  have h0:=of_decide_eq_false r0
  try simp only [ty] at h0
  (iterate 2 refine qy ?_ (hg:=(gff r0)));refine qy ?_;refine a6 ?_;refine a8 _ rfl (fun r1=>?_) (fun r1=>?_)
  ·
   have h1:=r1
   have h1:=qo r0 h1
   have h1:=of_decide_eq_true h1
   try simp only [ty] at h1
   refine sx7 ?_;refine qy ?_;refine a6 ?_
   exact hx8 rfl rfl rfl (⟨cci (by rw [cu,if_pos (by omega)]),trivial⟩)
  ·
   have h1:=r1
   have h1:=qo r0 h1
   have h1:=of_decide_eq_false h1
   try simp only [ty] at h1
   refine aa ?_;refine a7 ?_;refine sx7 ?_;(iterate 3 refine qy ?_);refine a6 ?_;refine a8 _ rfl (fun r2=>?_) (fun r2=>?_)
   ·
    have h2:=of_decide_eq_true r2
    try simp only [ty] at h2
    refine sx7 ?_;refine qy ?_;refine a6 ?_
    exact hx8 rfl rfl rfl (⟨cci (by rw [cu,if_neg (by omega),if_pos (by omega)]),trivial⟩)
   ·
    have h2:=of_decide_eq_false r2
    try simp only [ty] at h2
    refine aa ?_;refine a7 ?_;refine sx7 ?_;(iterate 3 refine qy ?_);refine a6 ?_;refine af ?_
    refine av (ι:=Nat) ⟨[(0,some _),(16,some _),(17,some _)],[]⟩ ⟨⟨c9,c9,c9,trivial⟩,trivial⟩ (fun i=>⟨[(18,some (vI i))],[]⟩) (fun i=>i ≤ l.length ∧ ∀ j,j < i → inU n (l.getD j default) = true) (fun i=>l.length - i) (0) (⟨Nat.zero_le _,fun j hj=>absurd hj (Nat.not_lt_zero j)⟩) ⟨⟨zy,trivial⟩,trivial⟩ ?_
    rintro i ⟨hi,hI⟩
    refine sx7 ?_;refine qy ?_;refine a6 ?_;refine a7 ?_;refine a8 _ rfl (fun r3=>?_) (fun r3=>?_)
    ·
     have h3:=of_decide_eq_true r3
     try simp only [ty] at h3
     refine aa ?_;refine a7 ?_;refine af ?_;refine sx7 ?_;(iterate 2 refine qy ?_);refine m9 0 ?_;refine s9 ?_;refine a6 ?_;refine sx7 ?_;(iterate 8 refine qy ?_);refine a6 ?_
     refine a8 _ rfl (fun r4=>?_) (fun r4=>?_)
     ·
      have h4:=r4
      have h4:=of_decide_eq_false (cb h4)
      try simp only [ty] at h4
      refine sx7 ?_;refine qy ?_;refine a6 ?_
      exact hx8 rfl rfl rfl (⟨cci (by rw [cu,if_neg (by omega),if_neg (by omega),if_neg (fun e=>absurd (alf (l:=l) (p:=inU n) (i:=i) (by omega) (by rw [Bool.eq_false_iff];exact fun e=>absurd (yh.2 e) (by assumption))) (by rw [e];decide))]),trivial⟩)
     ·
      have h4:=r4
      have h4:=of_decide_eq_true (ce h4)
      try simp only [ty] at h4
      refine aa ?_;refine gy ?_;(iterate 2 refine qy ?_);refine a6 ?_;refine ⟨i + 1, ?_, ?_, ?_⟩
      · refine ⟨by omega,fun j hj=>?_⟩
        rcases Nat.lt_or_eq_of_le (Nat.le_of_lt_succ hj) with h | h
        · exact hI j h
        · subst h
          exact yh.1 (by assumption)
      · first | omega | (dsimp only;omega)
      · exact ⟨⟨zy,c9,c9,c9,trivial⟩,trivial⟩
    ·
     have h3:=of_decide_eq_false r3
     try simp only [ty] at h3
     obtain rfl:i = l.length:=by omega
     refine au ?_;refine sx7 ?_;refine qy ?_;refine a6 ?_
     exact hx8 rfl rfl rfl (⟨cci (by rw [cu,if_neg (by omega),if_neg (by omega),if_pos (akm fun j hj=>hI j hj)]),trivial⟩)
theorem ue:al Tryd.prog 7:=⟨Tryd.f7,Tryd.func7,by kernel_rfl,by kernel_rfl⟩
theorem p6 (n:Int):ao Tryd.prog 7 [pI n] (ay [pA (ah n)]):=by
 refine am (nt:=19) ai Tryd.func7 rfl rfl l9 ?_;refine sx7 ?_;refine qy ?_;refine a6 ?_;refine sx7 ?_;refine qy ?_;refine a6 ?_;refine a7 ?_;refine sx7 ?_;refine qy ?_;refine a6 ?_
 refine af ?_
 refine av (ι:=Nat) ⟨[(0,some _)],[]⟩ ⟨⟨c9,trivial⟩,trivial⟩ (fun i=>⟨[(4,some (vI i)),(3,some (vA (ja i)))],[]⟩) (fun i=>i ≤ min n.toNat 32) (fun i=>min n.toNat 32 - i) (0) (Nat.zero_le _) ⟨⟨zy,zy,trivial⟩,trivial⟩ ?_
 rintro i hi
 refine a7 ?_;refine sx7 ?_;(iterate 4 refine qy ?_);refine ct rfl rfl (fun r0=>?_) (fun r0=>?_)
 ·
  have h0:=of_decide_eq_true r0
  try simp only [ty] at h0
  (iterate 2 refine qy ?_ (hg:=(gtt r0)));refine qy ?_;refine a6 ?_;refine a8 _ rfl (fun r1=>?_) (fun r1=>?_)
  ·
   have h1:=r1
   have h1:=ef r0 h1
   have h1:=of_decide_eq_true h1
   try simp only [ty] at h1
   refine aa ?_;refine a7 ?_;refine af ?_;refine gy ?_;(iterate 5 refine qy ?_);refine a6 ?_;refine gy ?_;(iterate 3 refine qy ?_);refine a6 ?_;refine ⟨i + 1, ?_, ?_, ?_⟩
   · show i + 1 ≤ _;omega
   · first | omega | (dsimp only;omega)
   · exact ⟨⟨zy,⟨_,rfl,(by simp only [Int.toNat_natCast];exact fg (adb i))⟩,c9,trivial⟩,trivial⟩
  ·
   have h1:=r1
   have h1:=ef r0 h1
   have h1:=of_decide_eq_false h1
   try simp only [ty] at h1
   obtain rfl:i = min n.toNat 32:=by omega
   refine au ?_;refine sx7 ?_;(iterate 2 refine qy ?_);refine a6 ?_
   exact hx8 rfl rfl rfl (CoL.refl _)
 ·
  have h0:=of_decide_eq_false r0
  try simp only [ty] at h0
  obtain rfl:i = min n.toNat 32:=by omega
  (iterate 2 refine k9 (gft r0) ?_);refine rq rfl rfl rfl rfl rfl ?_ (hp:=r0);refine a6 ?_;refine a8 _ rfl (fun e=>by cases e) (fun _=>?_);refine au ?_;refine sx7 ?_;(iterate 2 refine qy ?_)
  refine a6 ?_
  exact hx8 rfl rfl rfl (CoL.refl _)
end Go.Hx
end
section
namespace Go.Hx
theorem yf (i k:Nat) (hk:k < 32):((1:AS) <<< i).getLsbD k = decide (k = i):=by
 rw [BitVec.getLsbD_shiftLeft]
 by_cases h:k < i
 · simp [h,hk];omega
 · by_cases e:k = i
   · subst e;simp [hk]
   · have:0 < k - i:=by omega
     simp [hk,h,e,BitVec.getLsbD_one]
     omega
theorem n8:∀ (n k:Nat),k < 32 → (ja n).getLsbD k = decide (k < n)
 | 0,k,hk=>by simp [ja]
 | n + 1,k,hk=>by
  rw [a2g,BitVec.getLsbD_or,n8 n k hk,yf n k hk]
  by_cases h:k < n
  · simp [h];omega
  · by_cases e:k = n
    · simp [e]
    · simp [h,e];omega
theorem apj {s:AS} {n:Nat}:s >>> n = 0 ↔ ∀ k,k < 32 → n ≤ k → s.getLsbD k = false:=by
 constructor
 · intro h k hk hn
   have:=congrArg (fun x:AS=>x.getLsbD (k - n)) h
   simp only [BitVec.getLsbD_ushiftRight] at this
   rw [show n + (k - n) = k by omega] at this
   simpa using this
 · intro h
   apply BitVec.eq_of_getLsbD_eq
   intro i hi
   rw [BitVec.getLsbD_ushiftRight]
   by_cases hk:n + i < 32
   · rw [h (n + i) hk (by omega)];simp
   · rw [BitVec.getLsbD_of_ge _ _ (by omega)];simp
theorem ua {s:AS} {n:Nat} (hn:n ≤ 32):sub s (ja n) ↔ s >>> n = 0:=by
 rw [ar,apj]
 constructor
 · intro h k hk hle
   rw [Bool.eq_false_iff]
   intro e
   have:=h k hk e
   rw [n8 n k hk,decide_eq_true_iff] at this
   omega
 · intro h k hk e
   rw [n8 n k hk,decide_eq_true_iff]
   apply Nat.lt_of_not_le
   intro hle
   rw [h k hk hle] at e
   cases e
theorem a3h {n:Int} (hn:0 ≤ n) (h16:n ≤ 16) {f:Fd}:inU n f = true ↔ sub f.lhs (ah n) ∧ sub f.rhs (ah n):=by
 unfold inU ah
 rw [decide_eq_true_iff,Nat.min_eq_left (by omega),← ua (by omega)]
 exact ⟨fun h=>⟨l8 ui h,l8 a0l h⟩,fun h=>pn h.1 h.2⟩
abbrev Fd.pc (f:Fd):PC:=.agg [f.c 0,f.c 1]
def imp (l:List Fd) (f:Fd):Bool:=decide (sub f.rhs (clo l f.lhs))
end Go.Hx
end
