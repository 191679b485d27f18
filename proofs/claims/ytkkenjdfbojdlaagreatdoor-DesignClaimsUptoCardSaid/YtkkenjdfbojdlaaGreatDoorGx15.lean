/- A part of the proof: HxEnv Hx19 Hx23 Cs1 Cs3 V1. -/
import Derived.Deep.AppendLies
import Derived.Laws.CopyRow
import Derived.Shelf.Spec.SlicesInsertGrow
import Derived.Test.YtkkenjdfbojdlaaGreatDoorProg
import Derived.Test.YtkkenjdfbojdlaaGreatDoorGx14
set_option linter.all false
set_option maxRecDepth 100000
set_option maxHeartbeats 1000000
section
namespace Go.Hx
open Go.Proofs
def aj:List (Option TI):=[
 none,
 some ⟨.func,1,8,some [.nilFunc],false,false,true⟩,
 some ⟨.int .i64,1,8,some [.int .i64 0],false,false,true⟩,
 some ⟨.int .i64,1,8,some [.int .i64 0],false,false,true⟩,
 some ⟨.bool,1,1,some [.bool false],false,false,true⟩,
 some ⟨.int .u8,1,1,some [.int .u8 0],false,false,true⟩,
 none,
 none,
 none,
 some ⟨.string,1,16,some [.string ⟨#[]⟩],false,false,true⟩,
 none,
 none,
 none,
 none,
 none,
 none,
 none,
 none,
 none,
 none,
 none,
 none,
 some ⟨.slice 113,1,24,some [.slice none 0 0],false,false,true⟩,
 some ⟨.slice 5,1,24,some [.slice none 0 0],false,false,true⟩,
 some ⟨.struct [(0,5,false),(1,22,false),(2,22,false),(3,23,false)],4,80,some [.int .u8 0, .slice none 0 0, .slice none 0 0, .slice none 0 0],false,false,false⟩,
 some ⟨.struct [(0,5,false),(1,22,false),(2,22,false),(3,23,false)],4,80,some [.int .u8 0, .slice none 0 0, .slice none 0 0, .slice none 0 0],false,false,false⟩,
 some ⟨.slice 48,1,24,some [.slice none 0 0],false,false,true⟩,
 some ⟨.slice 49,1,24,some [.slice none 0 0],false,false,true⟩,
 some ⟨.slice 46,1,24,some [.slice none 0 0],false,false,true⟩,
 none,
 none,
 none,
 some ⟨.slice 129,1,24,some [.slice none 0 0],false,false,true⟩,
 some ⟨.struct [(0,28,false),(1,3,false),(2,32,false)],3,56,some [.slice none 0 0, .int .i64 0, .slice none 0 0],false,false,false⟩,
 some ⟨.struct [(0,28,false),(1,3,false),(2,32,false)],3,56,some [.slice none 0 0, .int .i64 0, .slice none 0 0],false,false,false⟩,
 some ⟨.int .i64,1,8,some [.int .i64 0],false,false,true⟩,
 none,
 none,
 none,
 none,
 none,
 none,
 none,
 some ⟨.int .u32,1,4,some [.int .u32 0],false,false,true⟩,
 none,
 none,
 some ⟨.int .u32,1,4,some [.int .u32 0],false,false,true⟩,
 some ⟨.struct [(0,46,false),(1,46,false)],2,8,some [.int .u32 0, .int .u32 0],false,false,false⟩,
 some ⟨.struct [(0,46,false),(1,46,false)],2,8,some [.int .u32 0, .int .u32 0],false,false,false⟩,
 some ⟨.struct [(0,46,false),(1,46,false)],2,8,some [.int .u32 0, .int .u32 0],false,false,false⟩,
 none,
 none,
 none,
 none,
 some ⟨.func,1,8,some [.nilFunc],false,false,true⟩,
 some ⟨.slice 28,1,24,some [.slice none 0 0],false,false,true⟩,
 none,
 some ⟨.slice 9,1,24,some [.slice none 0 0],false,false,true⟩,
 none,
 none,
 none,
 none,
 none,
 none,
 none,
 none,
 none,
 none,
 none,
 none,
 none,
 none,
 none,
 none,
 none,
 none,
 none,
 none,
 none,
 none,
 some ⟨.struct [(0,3,false),(1,26,false),(2,27,false)],3,56,some [.int .i64 0, .slice none 0 0, .slice none 0 0],false,false,false⟩,
 some ⟨.struct [(0,3,false),(1,26,false),(2,27,false)],3,56,some [.int .i64 0, .slice none 0 0, .slice none 0 0],false,false,false⟩,
 none,
 none,
 some ⟨.slice 3,1,24,some [.slice none 0 0],false,false,true⟩,
 none,
 none,
 none,
 none,
 none,
 none,
 some ⟨.func,1,8,some [.nilFunc],false,false,true⟩,
 some ⟨.pointer 94,1,8,some [.pointer none],false,false,true⟩,
 some ⟨.struct [(0,92,false),(1,23,false)],2,32,some [.pointer none, .slice none 0 0],false,false,false⟩,
 some ⟨.struct [(0,92,false),(1,23,false)],2,32,some [.pointer none, .slice none 0 0],false,false,false⟩,
 none,
 none,
 none,
 none,
 none,
 none,
 none,
 none,
 none,
 some ⟨.func,1,8,some [.nilFunc],false,false,true⟩,
 some ⟨.slice 111,1,24,some [.slice none 0 0],false,false,true⟩,
 none,
 none,
 none,
 some ⟨.slice 84,1,24,some [.slice none 0 0],false,false,true⟩,
 some ⟨.struct [(0,3,false),(1,109,false)],2,32,some [.int .i64 0, .slice none 0 0],false,false,false⟩,
 some ⟨.struct [(0,3,false),(1,109,false)],2,32,some [.int .i64 0, .slice none 0 0],false,false,false⟩,
 none,
 some ⟨.array 2 5,2,2,some [.int .u8 0, .int .u8 0],false,false,false⟩,
 none,
 none,
 none,
 none,
 none,
 some ⟨.func,1,8,some [.nilFunc],false,false,true⟩,
 none,
 none,
 none,
 none,
 none,
 none,
 none,
 none,
 some ⟨.struct [(0,4,false),(1,3,false),(2,3,false),(3,3,false)],4,32,some [.bool false, .int .i64 0, .int .i64 0, .int .i64 0],false,false,false⟩,
 some ⟨.struct [(0,4,false),(1,3,false),(2,3,false),(3,3,false)],4,32,some [.bool false, .int .i64 0, .int .i64 0, .int .i64 0],false,false,false⟩,
 none,
 some ⟨.func,1,8,some [.nilFunc],false,false,true⟩,
 some ⟨.func,1,8,some [.nilFunc],false,false,true⟩,
 none,
 none,
 none,
 none,
 some ⟨.func,1,8,some [.nilFunc],false,false,true⟩,
 none,
 none,
 none,
 some ⟨.func,1,8,some [.nilFunc],false,false,true⟩,
 none,
 none,
 none,
 none,
 some ⟨.func,1,8,some [.nilFunc],false,false,true⟩,
 some ⟨.func,1,8,some [.nilFunc],false,false,true⟩,
 none,
 some ⟨.func,1,8,some [.nilFunc],false,false,true⟩,
 none,
 none,
 none,
 some ⟨.pointer 5,1,8,some [.pointer none],false,false,true⟩,
 none,
 some ⟨.func,1,8,some [.nilFunc],false,false,true⟩,
 none,
 none,
 none,
 none,
 none,
 some ⟨.func,1,8,some [.nilFunc],false,false,true⟩,
 none,
 none,
 none,
 none,
 none,
 some ⟨.func,1,8,some [.nilFunc],false,false,true⟩,
 none,
 none,
 none,
 none,
 none,
 none,
 some ⟨.func,1,8,some [.nilFunc],false,false,true⟩,
 none,
 some ⟨.array 32 5,32,32,some [.int .u8 0, .int .u8 0, .int .u8 0, .int .u8 0, .int .u8 0, .int .u8 0, .int .u8 0, .int .u8 0, .int .u8 0, .int .u8 0, .int .u8 0, .int .u8 0, .int .u8 0, .int .u8 0, .int .u8 0, .int .u8 0, .int .u8 0, .int .u8 0, .int .u8 0, .int .u8 0, .int .u8 0, .int .u8 0, .int .u8 0, .int .u8 0, .int .u8 0, .int .u8 0, .int .u8 0, .int .u8 0, .int .u8 0, .int .u8 0, .int .u8 0, .int .u8 0],false,false,false⟩,
 some ⟨.int .u64,1,8,some [.int .u64 0],false,false,true⟩,
 none,
 none,
 none,
 none,
 some ⟨.int .u64,1,8,some [.int .u64 0],false,false,true⟩,
 none,
 none,
 some ⟨.func,1,8,some [.nilFunc],false,false,true⟩,
 some ⟨.func,1,8,some [.nilFunc],false,false,true⟩,
 none,
 none,
 none,
 none,
 some ⟨.func,1,8,some [.nilFunc],false,false,true⟩,
 none,
 none,
 some ⟨.map 46 46,1,8,some [.map none],false,false,true⟩,
 none,
 none,
 none,
 some ⟨.func,1,8,some [.nilFunc],false,false,true⟩,
 none,
 none,
 none,
 none,
 none,
 none,
 some ⟨.struct [(0,28,false)],1,24,some [.slice none 0 0],false,false,false⟩,
 some ⟨.struct [(0,28,false)],1,24,some [.slice none 0 0],false,false,false⟩,
 none,
 none,
 none,
 none,
 none,
 none,
 none,
 none,
 some ⟨.func,1,8,some [.nilFunc],false,false,true⟩,
 none,
 none,
 none,
 some ⟨.func,1,8,some [.nilFunc],false,false,true⟩,
 none,
 none,
 none,
 none,
 none,
 none,
 none,
 none,
 none,
 none,
 none,
 none,
 none,
 none,
 none,
 none,
 none,
 some ⟨.func,1,8,some [.nilFunc],false,false,true⟩,
 none,
 some ⟨.pointer 206,1,8,some [.pointer none],false,false,true⟩,
 none,
 none,
 some ⟨.int .i64,1,8,some [.int .i64 0],false,false,true⟩,
 none,
 none,
 none,
 none,
 none,
 none,
 none,
 none,
 none,
 none,
 none,
 none,
 none,
 none,
 some ⟨.slice 26,1,24,some [.slice none 0 0],false,false,true⟩,
 some ⟨.int .u64,1,8,some [.int .u64 0],false,false,true⟩,
 none,
 none,
 none,
 some ⟨.pointer 3,1,8,some [.pointer none],false,false,true⟩,
 none,
 none,
 none,
 some ⟨.pointer 258,1,8,some [.pointer none],false,false,true⟩,
 none,
 none,
 none,
 none,
 none,
 none,
 none,
 none,
 none,
 none,
 none,
 none,
 none,
 none,
 none,
 none]
def b7:List (Option TI) -> Nat -> Option TI
 | [],_=>none
 | x :: _,0=>x
 | _ :: r,n + 1=>b7 r n
def gl:Env:=b7 aj
def aru (P:Program):List (Option TI) -> Nat -> Prop
 | [],_=>True
 | none :: r,n=>aru P r (n + 1)
 | some i :: r,n=>bo P n = some i /\ aru P r (n + 1)
theorem a54 {P:Program}:∀ {l:List (Option TI)} {n:Nat},aru P l n -> ∀ t i,b7 l t = some i -> bo P (n + t) = some i
 | [],_,_,t,i,h=>by simp [b7] at h
 | none :: r,n,hf,0,i,h=>by simp [b7] at h
 | some x :: r,n,hf,0,i,h=>by simp only [b7,bki] at h;subst h;exact hf.1
 | none :: r,n,hf,t + 1,i,h=>by have:=a54 (l:=r) (n:=n + 1) hf t i h;rwa [show n + (t + 1) = n + 1 + t by omega]
 | some x :: r,n,hf,t + 1,i,h=>by have:=a54 (l:=r) (n:=n + 1) hf.2 t i h;rwa [show n + (t + 1) = n + 1 + t by omega]
theorem b57:bo Tryz.prog 1 = b7 aj 1:=by kernel_rfl
theorem b48:bo Tryz.prog 2 = b7 aj 2:=by kernel_rfl
theorem b5y:bo Tryz.prog 3 = b7 aj 3:=by kernel_rfl
theorem b69:bo Tryz.prog 4 = b7 aj 4:=by kernel_rfl
theorem b8q:bo Tryz.prog 5 = b7 aj 5:=by kernel_rfl
theorem b7g:bo Tryz.prog 9 = b7 aj 9:=by kernel_rfl
theorem az0:bo Tryz.prog 22 = b7 aj 22:=by kernel_rfl
theorem b18:bo Tryz.prog 23 = b7 aj 23:=by kernel_rfl
theorem b2d:bo Tryz.prog 24 = b7 aj 24:=by kernel_rfl
theorem azi:bo Tryz.prog 25 = b7 aj 25:=by kernel_rfl
theorem ayv:bo Tryz.prog 26 = b7 aj 26:=by kernel_rfl
theorem b1p:bo Tryz.prog 27 = b7 aj 27:=by kernel_rfl
theorem b11:bo Tryz.prog 28 = b7 aj 28:=by kernel_rfl
theorem b12:bo Tryz.prog 32 = b7 aj 32:=by kernel_rfl
theorem ayq:bo Tryz.prog 33 = b7 aj 33:=by kernel_rfl
theorem b0x:bo Tryz.prog 34 = b7 aj 34:=by kernel_rfl
theorem b0y:bo Tryz.prog 35 = b7 aj 35:=by kernel_rfl
theorem azw:bo Tryz.prog 43 = b7 aj 43:=by kernel_rfl
theorem ay6:bo Tryz.prog 46 = b7 aj 46:=by kernel_rfl
theorem b1f:bo Tryz.prog 47 = b7 aj 47:=by kernel_rfl
theorem b0w:bo Tryz.prog 48 = b7 aj 48:=by kernel_rfl
theorem ayi:bo Tryz.prog 49 = b7 aj 49:=by kernel_rfl
theorem ayo:bo Tryz.prog 54 = b7 aj 54:=by kernel_rfl
theorem azq:bo Tryz.prog 55 = b7 aj 55:=by kernel_rfl
theorem azt:bo Tryz.prog 57 = b7 aj 57:=by kernel_rfl
theorem ayy:bo Tryz.prog 80 = b7 aj 80:=by kernel_rfl
theorem b07:bo Tryz.prog 81 = b7 aj 81:=by kernel_rfl
theorem b0k:bo Tryz.prog 84 = b7 aj 84:=by kernel_rfl
theorem b19:bo Tryz.prog 91 = b7 aj 91:=by kernel_rfl
theorem az1:bo Tryz.prog 92 = b7 aj 92:=by kernel_rfl
theorem ay0:bo Tryz.prog 93 = b7 aj 93:=by kernel_rfl
theorem b1y:bo Tryz.prog 94 = b7 aj 94:=by kernel_rfl
theorem asn:bo Tryz.prog 104 = b7 aj 104:=by kernel_rfl
theorem avn:bo Tryz.prog 105 = b7 aj 105:=by kernel_rfl
theorem auc:bo Tryz.prog 109 = b7 aj 109:=by kernel_rfl
theorem ate:bo Tryz.prog 110 = b7 aj 110:=by kernel_rfl
theorem ax7:bo Tryz.prog 111 = b7 aj 111:=by kernel_rfl
theorem atz:bo Tryz.prog 113 = b7 aj 113:=by kernel_rfl
theorem awx:bo Tryz.prog 119 = b7 aj 119:=by kernel_rfl
theorem awi:bo Tryz.prog 128 = b7 aj 128:=by kernel_rfl
theorem awq:bo Tryz.prog 129 = b7 aj 129:=by kernel_rfl
theorem atm:bo Tryz.prog 131 = b7 aj 131:=by kernel_rfl
theorem awu:bo Tryz.prog 132 = b7 aj 132:=by kernel_rfl
theorem avp:bo Tryz.prog 137 = b7 aj 137:=by kernel_rfl
theorem axa:bo Tryz.prog 141 = b7 aj 141:=by kernel_rfl
theorem aw5:bo Tryz.prog 146 = b7 aj 146:=by kernel_rfl
theorem auf:bo Tryz.prog 147 = b7 aj 147:=by kernel_rfl
theorem atq:bo Tryz.prog 149 = b7 aj 149:=by kernel_rfl
theorem atp:bo Tryz.prog 153 = b7 aj 153:=by kernel_rfl
theorem aub:bo Tryz.prog 155 = b7 aj 155:=by kernel_rfl
theorem axl:bo Tryz.prog 161 = b7 aj 161:=by kernel_rfl
theorem at8:bo Tryz.prog 167 = b7 aj 167:=by kernel_rfl
theorem avm:bo Tryz.prog 174 = b7 aj 174:=by kernel_rfl
theorem asy:bo Tryz.prog 176 = b7 aj 176:=by kernel_rfl
theorem at2:bo Tryz.prog 177 = b7 aj 177:=by kernel_rfl
theorem av1:bo Tryz.prog 182 = b7 aj 182:=by kernel_rfl
theorem auo:bo Tryz.prog 185 = b7 aj 185:=by kernel_rfl
theorem ash:bo Tryz.prog 186 = b7 aj 186:=by kernel_rfl
theorem ax9:bo Tryz.prog 191 = b7 aj 191:=by kernel_rfl
theorem atf:bo Tryz.prog 194 = b7 aj 194:=by kernel_rfl
theorem axy:bo Tryz.prog 198 = b7 aj 198:=by kernel_rfl
theorem av9:bo Tryz.prog 205 = b7 aj 205:=by kernel_rfl
theorem auq:bo Tryz.prog 206 = b7 aj 206:=by kernel_rfl
theorem awc:bo Tryz.prog 215 = b7 aj 215:=by kernel_rfl
theorem auz:bo Tryz.prog 219 = b7 aj 219:=by kernel_rfl
theorem avj:bo Tryz.prog 237 = b7 aj 237:=by kernel_rfl
theorem awt:bo Tryz.prog 239 = b7 aj 239:=by kernel_rfl
theorem axi:bo Tryz.prog 242 = b7 aj 242:=by kernel_rfl
theorem au4:bo Tryz.prog 257 = b7 aj 257:=by kernel_rfl
theorem av0:bo Tryz.prog 258 = b7 aj 258:=by kernel_rfl
theorem axr:bo Tryz.prog 262 = b7 aj 262:=by kernel_rfl
theorem avs:bo Tryz.prog 266 = b7 aj 266:=by kernel_rfl
theorem az6:aru Tryz.prog aj 0:=⟨b57,⟨b48,⟨b5y,⟨b69,⟨b8q,⟨b7g,⟨az0,⟨b18,⟨b2d,⟨azi,⟨ayv,⟨b1p,⟨b11,⟨b12,⟨ayq,⟨b0x,⟨b0y,⟨azw,⟨ay6,⟨b1f,⟨b0w,⟨ayi,⟨ayo,⟨azq,⟨azt,⟨ayy,⟨b07,⟨b0k,⟨b19,⟨az1,⟨ay0,⟨b1y,⟨asn,⟨avn,⟨auc,⟨ate,⟨ax7,⟨atz,⟨awx,⟨awi,⟨awq,⟨atm,⟨awu,⟨avp,⟨axa,⟨aw5,⟨auf,⟨atq,⟨atp,⟨aub,⟨axl,⟨at8,⟨avm,⟨asy,⟨at2,⟨av1,⟨auo,⟨ash,⟨ax9,⟨atf,⟨axy,⟨av9,⟨auq,⟨awc,⟨auz,⟨avj,⟨awt,⟨axi,⟨au4,⟨av0,⟨axr,⟨avs,trivial⟩⟩⟩⟩⟩⟩⟩⟩⟩⟩⟩⟩⟩⟩⟩⟩⟩⟩⟩⟩⟩⟩⟩⟩⟩⟩⟩⟩⟩⟩⟩⟩⟩⟩⟩⟩⟩⟩⟩⟩⟩⟩⟩⟩⟩⟩⟩⟩⟩⟩⟩⟩⟩⟩⟩⟩⟩⟩⟩⟩⟩⟩⟩⟩⟩⟩⟩⟩⟩⟩⟩⟩
theorem fc:cz Tryz.prog gl:=fun t i h=>by
 have:=a54 az6 t i h;rwa [blc] at this
theorem wg:Tryz.prog.follows .mixedOrders = true:=by kernel_rfl
end Go.Hx
namespace Go.Hx
open Go.Proofs
section
variable {ro:Option Nat} {P:Program} {E:Env} {nt:Nat} {ops:Array Oper} {i:Nat} {o:Oper} {st:HSt} {L:List Nat} {K:List Tr -> HSt -> Prop} {Q:Exit -> HSt -> Prop}
section
variable {gb:Bool}
theorem qy {out:Out} (hT:Reg P E nt ops L (st.after o.dst (some out.val) []) fun T sf=>K (⟨i,aal true out.val.ids,looks st.den o,cn st.den o.dst [],fv E st.den o⟩ :: T) sf) (hi:ops[i]? = some o:=by exact rfl) (hw:b4 ops st.den o = some gb:=by exact rfl) (hd:dl nt o.dst = true:=by exact rfl) (hq':hq E true st.den.o (ev st.den) o.op = some out:=by exact rfl) (hg:gb = true:=by exact rfl) (hp:out.pre:=by first | exact trivial | (simp only [gr,inR,mb,nb];omega) | exact aks _ _ | exact ⟨trivial,trivial⟩ | exact ⟨trivial,bkm rfl⟩ | (try dsimp only) <;> ((repeat' apply And.intro) <;> first | trivial | rfl | omega | (simp only [ek,be];omega) | assumption | exact bkm rfl)):
 Reg P E nt ops (i :: L) st K:=du true hi hw hd hq' hg hp hT
theorem k9 (hg:gb = false) (hT:Reg P E nt ops L (st.after o.dst (some (.tup [])) []) fun T sf=>K (⟨i,aal true [],looks st.den o,cn st.den o.dst [],none⟩ :: T) sf) (hi:ops[i]? = some o:=by exact rfl) (hw:b4 ops st.den o = some gb:=by exact rfl) (hd:dl nt o.dst = true:=by exact rfl):Reg P E nt ops (i :: L) st K:=apn hi hw hd hg hT
theorem m9 (id:Nat) {nw:New} (hT:Reg P E nt ops L (st.after o.dst (some nw.val) [(id,some nw.ob)]) fun T sf=>K (⟨i,⟨id,false,true, .tup [],[id],[id],nw.val.ids ++ nw.ob.ids⟩,looks st.den o,cn st.den o.dst [(id,some nw.ob)],none⟩ :: T) sf) (hi:ops[i]? = some o:=by exact rfl) (hw:b4 ops st.den o = some gb:=by exact rfl) (hd:dl nt o.dst = true:=by exact rfl) (hq':ha E (ev st.den) id o.op = some nw:=by exact rfl) (hn:sb id st = true:=by exact rfl) (hg:gb = true:=by exact rfl) (hp:nw.pre:=by first | exact trivial | (try dsimp only) <;> ((repeat' apply And.intro) <;> first | trivial | rfl | omega | assumption)):Reg P E nt ops (i :: L) st K:=a1l id hi hw hd hq' hn hg hp hT
theorem s9 {u:Upd} (hT:Reg P E nt ops L (st.after o.dst none [(u.id,some u.ob)]) fun T sf=>K (⟨i,⟨0,false,true, .tup [],[u.id],[],u.ob.ids⟩,looks st.den o,cn st.den o.dst [(u.id,some u.ob)],fv E st.den o⟩ :: T) sf) (hi:ops[i]? = some o:=by exact rfl) (hw:b4 ops st.den o = some gb:=by exact rfl) (hd:dl nt o.dst = true:=by exact rfl) (hq':hs E st.den.o (ev st.den) o.op = some u:=by exact rfl) (hg:gb = true:=by exact rfl) (hp:u.pre:=by first | exact bkm rfl | (try dsimp only) <;> ((repeat' apply And.intro) <;> first | trivial | rfl | omega | (simp only [ek,be];omega) | assumption | exact bkm rfl)):Reg P E nt ops (i :: L) st K:=alc hi hw hd hq' hg hp hT
variable {p:Prop}
theorem f9 {rs:List ResultVar} {res:List PC} {q:Prop} {l:List HC} {vs:List PC} (h1:a14 E st.den rs = some (p,l)) (h2:qp st.den.o l = some (q,vs)) (hc:CoL vs res) (hp:p:=by (repeat' apply And.intro) <;> first | trivial | exact bkm rfl | rfl) (hq:q:=by (repeat' apply And.intro) <;> first | trivial | exact bkm rfl | rfl):ah5 E st rs res:=⟨p,l,q,vs,h1,hp,h2,hq,hc⟩
theorem c9 {f:Option HR} {x:HR} (h:f = some x:=by exact rfl):∃ y,f = some y /\ CoR y x:=⟨x,h,CoR.refl x⟩
theorem u9 {f:Option af} {x:af} (h:f = some x:=by exact rfl):∃ y,f = some y /\ CoO y x:=⟨x,h,CoO.refl x⟩
theorem bp5 (h:p:=by simp_all):p:=h
theorem zy {f:Option HR} {x y:HR} (h:f = some y:=by exact rfl) (c:CoR y x:=by first | exact CoR.refl _ | exact coi bos | exact cob bp5):∃ y,f = some y /\ CoR y x:=⟨y,h,c⟩
theorem l9 {a b:Nat} (h:Nat.ble a b = true:=by exact rfl):a <= b:=bkm h
theorem qcx {cl:Call} {f:FuncId} {fst caps args vs:List PC} {b:Bool} {res:PR} (hf:goodFn P f) (hpure:a7 P f args res) (hT:Reg P E nt ops L (st.after o.dst (some res.toH) []) fun T sf=>K (⟨i,⟨0,false,true,res,[],[],[]⟩,looks st.den o,cn st.den o.dst [],none⟩ :: T) sf) (hi:ops[i]? = some o:=by exact rfl) (hw:b4 ops st.den o = some gb:=by exact rfl) (hd:dl nt o.dst = true:=by exact rfl) (ho:o.op = .call cl:=by exact rfl) (hc:callee (ev st.den) cl = some (f,fst,caps):=by exact rfl) (hv:jq st.den.o (ev st.den) cl.args.toList = some (p,vs,b):=by exact rfl) (hco:CoL (fst ++ (vs ++ caps)) args:=by exact CoL.refl _) (hb:(!b || res.flat) = true:=by exact rfl) (hg:gb = true:=by exact rfl) (hp:p:=by (try dsimp only) <;> ((repeat' apply And.intro) <;> first | trivial | rfl | omega | assumption)):Reg P E nt ops (i :: L) st K:=apl hi hw hd ho hc hv hf hpure hco hg hp hb hT
theorem wgx {f : FuncId} {fn : Func} (h : P.funcs[f]? = some fn) (h1 : (fn.name == "runtime.NumGoroutine") = false := by kernel_rfl) (h2 : fn.body.isNone = false := by kernel_rfl) : goodFn P f := ⟨fn, h, h1, h2⟩
theorem a1b [Decidable p] (h:decide p = true):p:=of_decide_eq_true h
theorem a3w [Decidable p] (h:decide p = false):¬ p:=of_decide_eq_false h
theorem ty {n:Nat}:((n:Nat):Int).toNat = n:=bkw n
end
end
theorem gy {ro:Option Nat} {nt id:Nat} {ops:Array Oper} {st:HSt} {Q:Exit -> HSt -> Prop} (h:Reg Tryz.prog gl nt ops (List.range ops.size) st fun _ sf=>Q .normal sf):HW (ro:=ro) Tryz.prog nt (.region id ops false) st Q:=agm fc h
end Go.Hx
namespace Go.Hx
open Go.Proofs
section
variable {Q:Exit -> HSt -> Prop}
theorem sx7 {ro:Option Nat} {nt id:Nat} {ops:Array Oper} {st:HSt} {y:Code} (h:Reg Tryz.prog gl nt ops (List.range ops.size) st fun _ sf=>bb9 (ro:=ro) Tryz.prog nt y Q .normal sf):HW (ro:=ro) Tryz.prog nt (.seq (.region id ops false) y) st Q:=cq (agm fc h)
theorem hx8 {ro:Option Nat} {P:Program} {E:Env} {nt:Nat} {st:HSt} {rs:List ResultVar} {res:List PC} {p q:Prop} {l:List HC} {vs:List PC} (hQ:Q .ret st = ((Exit.ret = .normal \/ Exit.ret = .ret) /\ ah5 E st rs res)) (h1:a14 E st.den rs = some (p,l)) (h2:qp st.den.o l = some (q,vs)) (hc:CoL vs res) (hp:p:=by (repeat' apply And.intro) <;> first | trivial | exact bkm rfl | rfl) (hq:q:=by (repeat' apply And.intro) <;> first | trivial | exact bkm rfl | rfl):HW (ro:=ro) P nt .ret st Q:=jn (hQ ▸ ⟨.inr rfl,p,l,q,vs,h1,hp,h2,hq,hc⟩)
end
end Go.Hx
namespace Go.Hx
open Go.Proofs
theorem tz1 {p q:Prop} {d:Decidable p} (h:decide p = true) (e:p = q:=by first | (simp only [ty];done) | (simp only [ty];exact rfl) | exact rfl):q:=e ▸ of_decide_eq_true h
theorem tz2 {p q:Prop} {d:Decidable p} (h:decide p = false) (e:(¬ p) = q:=by first | (simp only [ty];done) | (simp only [ty];exact rfl) | exact rfl):q:=e ▸ of_decide_eq_false h
section
variable {ro:Option Nat} {P:Program} {nt:Nat} {st:HSt} {Q:Exit -> HSt -> Prop} {c:Operand} {x y:Code} {p q q':Prop} {d:Decidable p}
theorem hcd (ht:q -> HW (ro:=ro) P nt x st Q) (hf:q' -> HW (ro:=ro) P nt y st Q) (hc:ev st.den c = some (.v (.one (.p (.raw (.bool (@decide p d)))))):=by exact rfl) (e:p = q:=by first | (simp only [ty];done) | (simp only [ty];exact rfl) | exact rfl) (e':(¬ p) = q':=by first | (simp only [ty];done) | (simp only [ty];exact rfl) | exact rfl):HW (ro:=ro) P nt (.cond c x y) st Q :=
 a8 _ hc (fun h=>ht (e ▸ of_decide_eq_true h)) (fun h=>hf (e' ▸ of_decide_eq_false h))
theorem hcn (ht:q' -> HW (ro:=ro) P nt x st Q) (hf:q -> HW (ro:=ro) P nt y st Q) (hc:ev st.den c = some (.v (.one (.p (.raw (.bool (!(@decide p d))))))):=by exact rfl) (e:p = q:=by first | (simp only [ty];done) | (simp only [ty];exact rfl) | exact rfl) (e':(¬ p) = q':=by first | (simp only [ty];done) | (simp only [ty];exact rfl) | exact rfl):HW (ro:=ro) P nt (.cond c x y) st Q :=
 a8 _ hc (fun h=>ht (e' ▸ of_decide_eq_false (d6 h))) (fun h=>hf (e ▸ of_decide_eq_true (d5 h)))
theorem hcb {b:Bool} (ht:b = true -> HW (ro:=ro) P nt x st Q) (hf:b = false -> HW (ro:=ro) P nt y st Q) (hc:ev st.den c = some (.v (.one (.p (.raw (.bool b))))):=by exact rfl):HW (ro:=ro) P nt (.cond c x y) st Q:=a8 _ hc ht hf
theorem hcv {b:Bool} (ht:b = false -> HW (ro:=ro) P nt x st Q) (hf:b = true -> HW (ro:=ro) P nt y st Q) (hc:ev st.den c = some (.v (.one (.p (.raw (.bool (!b)))))):=by exact rfl):HW (ro:=ro) P nt (.cond c x y) st Q :=
 a8 _ hc (fun h=>ht (d6 h)) (fun h=>hf (d5 h))
theorem kd {a b:Prop} (h:b) (k:a:=by kernel_rfl):a /\ b:=⟨k,h⟩
theorem lpz {ι:Type} {I:ι -> HSt} {pp:ι -> Prop} {μ:ι -> Nat} {k:Nat} (i':ι) (hs:Sub (I i') st) (hp:pp i') (hm:μ i' < k:=by first | omega | (dsimp only;omega)):∃ i',pp i' /\ μ i' < k /\ Sub (I i') st:=⟨i',hp,hm,hs⟩
theorem lpx {ι:Type} {I:ι -> HSt} {pp:ι -> Prop} {μ:ι -> Nat} {k:Nat} (i':ι) (hs:Sub (I i') st) (hp:pp i':=by first | trivial | (show _ + 1 <= _;omega)) (hm:μ i' < k:=by first | omega | (dsimp only;omega)):∃ i',pp i' /\ μ i' < k /\ Sub (I i') st:=⟨i',hp,hm,hs⟩
theorem jnx {ι:Type} {I:ι -> HSt} {pp:ι -> Prop} (i':ι) (hs:Sub (I i') st) (hp:pp i':=by trivial):∃ i',pp i' /\ Sub (I i') st:=⟨i',hp,hs⟩
end
theorem hpx {nt:Nat} {f:FuncId} {fn:Func} {body:Code} {args res:List PC} (hf:Tryz.prog.funcs[f]? = some fn) (h:HW (ro:=none) Tryz.prog nt body ⟨a03 0 args,[]⟩ fun e st=>(e = .normal \/ e = .ret) /\ ah5 gl st fn.results.toList res) (hb:fn.body = some body:=by exact rfl) (hn:fn.ntmps = nt:=by exact rfl) (hl:args.length <= nt:=by exact bkm rfl):a7 Tryz.prog f args (ae res):=azl fc hf hb hn hl h
theorem hfx {nt:Nat} {f:FuncId} {fn:Func} {body:Code} {args:List HC} {o1 o2:List (Nat × af)} {res:HR} {fx:List Nat} (hf:Tryz.prog.funcs[f]? = some fn) (h:HW (ro:=none) Tryz.prog nt body ⟨a0g 0 args,kz o1⟩ fun e st=>(e = .normal \/ e = .ret) /\ bbi gl st fn.results.toList res o2) (hb:fn.body = some body:=by exact rfl) (hn:fn.ntmps = nt:=by exact rfl) (hl:args.length <= nt:=by exact bkm rfl) (hx:fx.all (Nat.ble 1000) = true:=by exact rfl):da Tryz.prog f args o1 res o2 fx:=b6r fc hf hb hn hl hx h
theorem gd {ro:Option Nat} {nt id:Nat} {ops:Array Oper} {st:HSt} {Q:Exit -> HSt -> Prop} (h:Reg Tryz.prog gl nt ops (List.range ops.size) st fun T sf=>aco ops T = true /\ Q .normal sf):HW (ro:=ro) Tryz.prog nt (.region id ops true) st Q:=aeu fc wg _ h
section
variable {P:Program} {E:Env} {nt:Nat} {ops:Array Oper} {i:Nat} {o:Oper} {st:HSt} {L:List Nat} {K:List Tr -> HSt -> Prop}
theorem r9 (id:Nat) (wb:Bool) {u:App} {gb:Bool} (hT:Reg P E nt ops L (st.after o.dst (some u.val) [(u.id,some u.ob)]) fun T sf=>K (⟨i,⟨id,wb,true, .tup [],[u.id],if u.new then [id] else [],u.val.ids ++ u.ob.ids⟩,looks st.den o,cn st.den o.dst [(u.id,some u.ob)],none⟩ :: T) sf)
 (hi:ops[i]? = some o:=by exact rfl) (hw:b4 ops st.den o = some gb:=by exact rfl) (hd:dl nt o.dst = true:=by exact rfl) (hq':hap E st.den.o (ev st.den) id wb o.op = some u:=by exact rfl) (hn:(!u.new || sb id st) = true:=by exact rfl) (hg:gb = true:=by exact rfl)
 (hp:u.pre:=by (try dsimp only) <;> ((repeat' apply And.intro) <;> first | trivial | rfl | assumption | omega | (simp only [bkw];omega) | (simp only [ek,be];omega) | exact Or.inl rfl | exact Or.inr rfl | exact (fun _=>Or.inl rfl) | exact (fun _=>Or.inr (bkm rfl)) | exact bkm rfl | (intro h;cases h;done))):Reg P E nt ops (i :: L) st K:=a6g id wb hi hw hd hq' hn hg hp hT
theorem fc9 {cl:Call} {f:FuncId} {caps hcs:List HC} {args:List HC} {o1 o2:List (Nat × af)} {res:HR} {fx:List Nat} {gb:Bool} (hf:goodFn P f) (hfun:da P f args o1 res o2 fx) (hsub:aep o1 st.den.o)
 (hT:Reg P E nt ops L (st.after o.dst (some res) (xd o1 o2)) fun T sf=>K (⟨i,⟨0,false,true, .tup [],d9 o1 ++ d9 o2,am9 o1 o2 fx,res.ids ++ a9p o2⟩,looks st.den o,cn st.den o.dst (xd o1 o2),none⟩ :: T) sf)
 (hi:ops[i]? = some o:=by exact rfl) (hw:b4 ops st.den o = some gb:=by exact rfl) (hd:dl nt o.dst = true:=by exact rfl) (ho:o.op = .call cl:=by exact rfl) (hc:vg (ev st.den) cl = some (f,caps):=by exact rfl) (hv:rt (ev st.den) cl.args.toList = some hcs:=by exact rfl) (hco:tq (hcs ++ caps) args:=by exact tq.refl _) (hB:fcB o1 o2 res fx st = true:=by exact rfl) (hg:gb = true:=by exact rfl):Reg P E nt ops (i :: L) st K:=gi hi hw hd ho hc hv hf hfun hco hsub hB hg hT
end
end Go.Hx
end
section
namespace Go.Hx
structure Hq (Q:Prop):Prop where
 v:Q
section
variable {P Q:Prop}
theorem w_1 (hQ:Q) (h:Hq Q -> P:=by intro h;(first | refine qy ?_ | refine aq ?_ | refine cq ?_ | refine gy ?_ | refine s9 ?_ | refine gd ?_ | refine kd ?_ | refine d7 ?_ | refine jn ?_ | refine a47 ?_ | refine dp ?_);exact h.v):P:=h ⟨hQ⟩
theorem w_2 (hQ:Q) (h:Hq Q -> P:=by intro h;(iterate 2 refine w_1 ?_);exact h.v):P:=h ⟨hQ⟩
theorem w_3 (hQ:Q) (h:Hq Q -> P:=by intro h;(iterate 3 refine w_1 ?_);exact h.v):P:=h ⟨hQ⟩
theorem w_4 (hQ:Q) (h:Hq Q -> P:=by intro h;(iterate 4 refine w_1 ?_);exact h.v):P:=h ⟨hQ⟩
theorem w_5 (hQ:Q) (h:Hq Q -> P:=by intro h;(iterate 5 refine w_1 ?_);exact h.v):P:=h ⟨hQ⟩
theorem w_6 (hQ:Q) (h:Hq Q -> P:=by intro h;(iterate 6 refine w_1 ?_);exact h.v):P:=h ⟨hQ⟩
theorem w_7 (hQ:Q) (h:Hq Q -> P:=by intro h;(iterate 7 refine w_1 ?_);exact h.v):P:=h ⟨hQ⟩
theorem w_8 (hQ:Q) (h:Hq Q -> P:=by intro h;(iterate 8 refine w_1 ?_);exact h.v):P:=h ⟨hQ⟩
theorem w_9 (hQ:Q) (h:Hq Q -> P:=by intro h;(iterate 9 refine w_1 ?_);exact h.v):P:=h ⟨hQ⟩
theorem ce (hQ:Q) (h:Hq Q -> P:=by intro h;(iterate 10 refine w_1 ?_);exact h.v):P:=h ⟨hQ⟩
theorem cu (hQ:Q) (h:Hq Q -> P:=by intro h;(iterate 11 refine w_1 ?_);exact h.v):P:=h ⟨hQ⟩
theorem ef (hQ:Q) (h:Hq Q -> P:=by intro h;(iterate 12 refine w_1 ?_);exact h.v):P:=h ⟨hQ⟩
theorem ik (hQ:Q) (h:Hq Q -> P:=by intro h;(iterate 13 refine w_1 ?_);exact h.v):P:=h ⟨hQ⟩
theorem oe (hQ:Q) (h:Hq Q -> P:=by intro h;(iterate 14 refine w_1 ?_);exact h.v):P:=h ⟨hQ⟩
theorem ku (hQ:Q) (h:Hq Q -> P:=by intro h;(iterate 15 refine w_1 ?_);exact h.v):P:=h ⟨hQ⟩
theorem x9 (hQ:Q) (h:Hq Q -> P:=by intro h;(iterate 16 refine w_1 ?_);exact h.v):P:=h ⟨hQ⟩
theorem xa (hQ:Q) (h:Hq Q -> P:=by intro h;(iterate 17 refine w_1 ?_);exact h.v):P:=h ⟨hQ⟩
theorem ald (hQ:Q) (h:Hq Q -> P:=by intro h;(iterate 18 refine w_1 ?_);exact h.v):P:=h ⟨hQ⟩
theorem a42 (hQ:Q) (h:Hq Q -> P:=by intro h;(iterate 19 refine w_1 ?_);exact h.v):P:=h ⟨hQ⟩
theorem ar3 (hQ:Q) (h:Hq Q -> P:=by intro h;(iterate 20 refine w_1 ?_);exact h.v):P:=h ⟨hQ⟩
theorem a69 (hQ:Q) (h:Hq Q -> P:=by intro h;(iterate 21 refine w_1 ?_);exact h.v):P:=h ⟨hQ⟩
theorem ay9 (hQ:Q) (h:Hq Q -> P:=by intro h;(iterate 22 refine w_1 ?_);exact h.v):P:=h ⟨hQ⟩
theorem aqj (hQ:Q) (h:Hq Q -> P:=by intro h;(iterate 24 refine w_1 ?_);exact h.v):P:=h ⟨hQ⟩
theorem bei (hQ:Q) (h:Hq Q -> P:=by intro h;(iterate 25 refine w_1 ?_);exact h.v):P:=h ⟨hQ⟩
theorem bb4 (hQ:Q) (h:Hq Q -> P:=by intro h;(iterate 27 refine w_1 ?_);exact h.v):P:=h ⟨hQ⟩
theorem bj7 (hQ:Q) (h:Hq Q -> P:=by intro h;(iterate 29 refine w_1 ?_);exact h.v):P:=h ⟨hQ⟩
theorem bhc (hQ:Q) (h:Hq Q -> P:=by intro h;(iterate 30 refine w_1 ?_);exact h.v):P:=h ⟨hQ⟩
end
end Go.Hx
end
namespace Go.Hx
section
open Go.Proofs Go.Lib Go.RowKit
theorem bbb (w:World) (o:Obj) {r:Nat} (h:r < w.heap.size):(w.alloc o).heap[r]? = w.heap[r]?:=by
 show (w.heap.push o)[r]? = _;rw [bok h,blj h]
def bjx (k:Nat) (xs vs:List Value):List Value:=xs.take k ++ vs ++ xs.drop k
structure bj9 (w w':World) (T s:Nat) (own v:Value) (n:Nat) (xs:List Value):Prop where
 row:w'.ownsRow 0 T s v (n + 1) xs
 bl:Below 0 w w'
 out:∀ g,g < w.heap.size -> cw own ≠ some g -> w'.heap[g]? = w.heap[g]?
 at_:∀ g,cw v = some g -> w.heap.size <= g \/ cw own = some g
def bjv (i:Nat) (F G:Nat -> Nat -> PV):Nat -> Nat -> PV:=fun k j=>if k < i then F k j else if k = i then G 0 j else F (k - 1) j
theorem ir {id q:Nat} {x ob:af} (h:lk [(q,x)] id = some ob):id = q /\ ob = x:=by
 simp only [lk] at h;by_cases hk:q = id
 · subst hk
   simp at h;exact ⟨rfl,h.symm⟩
 have:Nat.beq q id = false:=by
  rw [bkv];exact fun hb=>hk (blb hb)
 rw [this] at h;cases h
structure bk2 (c:Ctx) (w w':World) (T s a:Nat) (v:Value) (n:Nat) (ys:List Value):Prop where
 row:w'.ownsRow 0 T s v (n + 1) ys
 bl:Below 0 w w'
 out:∀ g,g < w.heap.size -> ¬ c.blk a g -> w'.heap[g]? = w.heap[g]?
 at_:∀ g,cw v = some g -> w.heap.size <= g \/ c.blk a g
theorem b1h {P:Program} {f:FuncId} {T s a:Nat} {y:Value} {F:Nat -> Nat -> PV} (hs:0 < s)
 (h:∀ (w:World) (ad:Option Addr),Calls P f #[.slice ad 0 0,y] w fun e w'=>∃ v,e = .returned v /\ Below w.heap.size w w' /\ (v = .slice ad 0 0 \/ w'.ownsRow 0 T s v 0 [] /\ ∀ g,cw v = some g -> w.heap.size <= g)) :
 da P f [.one (.p (kp (.slice none 0 0))), .one (.p (.raw y))] [] (.v (.one (.ref a 0))) [(a, .arr true s T 0 F)] []:=by
 intro w c us hM hrep
 obtain ⟨ad,rfl⟩:∃ ad,us = [.slice ad 0 0,y]:=by
  match us,hrep with
  | [u0,u1],⟨h0,h1,_⟩ =>
   obtain ⟨ad,cap,hv,_,_,hc,_⟩:=h0;obtain rfl:cap = 0:=hc rfl;exact ⟨ad,by rw [hv,show u1 = y from h1.1]⟩
 refine (h w ad).mono ?_;rintro e w' ⟨v,rfl,hb,hor⟩;have la:lk [(a,af.arr true s T 0 F)] a = some (.arr true s T 0 F):=by simp [lk]
 have him:∀ q ob,c.imm q = some ob -> q < w.heap.size:=fun q ob hq=>(bkn.1 (hM.imm q ob hq)).1
 have hform:v.oneCell' = true:=by
  rcases hor with rfl | ⟨hrow,_⟩
  · rfl
  rcases hrow.2 with ⟨hv,_⟩ | ⟨g,cap,cur,hv,_⟩ <;> (subst hv;rfl)
 have hbk:∃ bk:Nat -> Prop,(∀ g,bk g -> w.heap.size <= g) /\ (bk = j2 v /\ w'.ownsRow 0 T s v 0 [] \/ bk = noB /\ b5 c.imm (.sl 0 s true F) v):=by
  rcases hor with rfl | ⟨hrow,hat⟩
  · exact ⟨noB,fun g hg=>hg.elim, .inr ⟨rfl,ad,0,rfl,bko _,bkl _,fun _=>rfl,fun h=>absurd h (bo1 0)⟩⟩
  exact ⟨j2 v,hat, .inl ⟨rfl,hrow⟩⟩
 obtain ⟨bk,hat,hok⟩:=hbk;refine ⟨v,{ c with own:=fun q=>if q = a then v else c.own q,blk:=fun q=>if q = a then bk else c.blk q },rfl,⟨hform,fun l hl=>(by cases (ir hl).2),fun ob s1 e1 n1 ho1 hd=>?_⟩,⟨fun id ob hl=>?_,fun id id' ob ob' q hl hl' _ _=>by rw [(ir hl).1,(ir hl').1],fun q ob hq=>(hb.block q (him q ob hq)).trans (hM.imm q ob hq),fun id ob q hl hq=>?_⟩,⟨hb.os,hb.tape,hb.output,hb.size,fun k hk=>absurd hk (bkp k),hb.drawn⟩,fun q hq _=>⟨hb.block q hq,rfl⟩,fun id ob q hl hq=>?_,fun id hid=>absurd hid bow⟩
 · obtain ⟨_,rfl⟩:=ir ho1
   simp only [af.dim,bki,bkr] at hd;obtain ⟨rfl,rfl,rfl⟩:=hd;exact ⟨bko _,fun _=>by simp⟩
 · obtain ⟨rfl,rfl⟩:=ir hl
   rcases hok with ⟨h1,h2⟩ | ⟨h1,h2⟩
   · exact ⟨hs,bkl _, .inl ⟨by simpa using h1,[],by simpa using h2,fun i j hi=>by omega⟩⟩
   exact ⟨hs,bkl _, .inr ⟨.inr rfl,by simpa using h1,by simpa using h2⟩⟩
 · obtain ⟨rfl,_⟩:=ir hl
   have hq':bk q:=by simpa using hq
   show c.imm q = none
   cases hc:c.imm q with
   | none=>rfl
   | some ob=>have:=him q ob hc;have:=hat q hq';omega
 obtain ⟨rfl,_⟩:=ir hl;have hq':bk q:=by simpa using hq
 exact .inl (hat q hq')
def HE (nt:Nat) (st:HSt) (Q:HSt -> Prop):Prop:=∀ w0 m0 a w,Rel w0 m0 nt st.den a w -> ∃ st':HSt,Q st' /\ Rel w0 m0 nt st'.den a w
theorem b9y {nt:Nat} {st:HSt} {Q:HSt -> Prop} (h:Q st):HE nt st Q:=fun _ _ _ _ hr=>⟨st,h,hr⟩
end
section
open Go.RowKit
abbrev AS:=BitVec 32
abbrev asI (s:AS):Int:=(s.toNat:Int)
def asC (s:AS):PV:=.raw (.int .u32 (asI s))
theorem ai1 {n:Int} (h0:0 <= n) (h1:n < 4294967296):IntKind.wrap .u32 n = n:=vn (by simp only [inR,mb,nb];omega)
theorem acr (s:AS):asI s < 4294967296:=by
 have:=s.isLt;unfold asI;omega
theorem a5t (s:AS):0 <= asI s:=bmz _
theorem n8 (s:AS):BitVec.ofInt 32 (asI s) = s:=by
 unfold asI;rw [BitVec.ofInt_natCast,BitVec.ofNat_toNat,BitVec.setWidth_eq]
theorem cg {a b:AS}:asI a = asI b <-> a = b:=by
 unfold asI;rw [Int.ofNat_inj];exact BitVec.toNat_inj
theorem a3y (s:AS):IntKind.wrap .u32 (s.toNat:Int) = asI s:=ai1 (a5t s) (acr s)
theorem fj (a b:AS):aw .and .u32 (asI a) (asI b) = asI (a &&& b):=by
 show IntKind.wrap .u32 ((BitVec.ofInt 32 (asI a) &&& BitVec.ofInt 32 (asI b)).toNat:Int) = _;rw [n8,n8,a3y]
theorem bOr (a b:AS):aw .or .u32 (asI a) (asI b) = asI (a ||| b):=by
 show IntKind.wrap .u32 ((BitVec.ofInt 32 (asI a) ||| BitVec.ofInt 32 (asI b)).toNat:Int) = _;rw [n8,n8,a3y]
theorem aqs (a b:AS):aw .xor .u32 (asI a) (asI b) = asI (a ^^^ b):=by
 show IntKind.wrap .u32 ((BitVec.ofInt 32 (asI a) ^^^ BitVec.ofInt 32 (asI b)).toNat:Int) = _;rw [n8,n8,a3y]
theorem go (a b:AS):aw .andNot .u32 (asI a) (asI b) = asI (a &&& ~~~b):=by
 show IntKind.wrap .u32 ((BitVec.ofInt 32 (asI a) &&& ~~~BitVec.ofInt 32 (asI b)).toNat:Int) = _;rw [n8,n8,a3y]
theorem xe (a:AS) (n:Nat):(asI a).fdiv (2 ^ (min n 32)) = asI (a >>> n):=by
 have e:(2:Int) ^ (min n 32) = ((2 ^ (min n 32):Nat):Int):=by rw [Int.natCast_pow];rfl
 rw [e];unfold asI;rw [Int.fdiv_eq_ediv_of_nonneg _ (bmz _),<- Int.natCast_ediv,boa,bo4];by_cases h:n <= 32
 · rw [bmn h]
 rw [Nat.min_eq_right bos];have h1:=a.isLt;have h2:2 ^ 32 <= 2 ^ n:=bn7 bos bos;rw [Nat.div_eq_of_lt bos,Nat.div_eq_of_lt (bmu bos h2)]
theorem akq (a:AS) (n:Nat):IntKind.wrap .u32 (asI a * 2 ^ (min n 32)) = asI (a <<< n):=by
 have e:asI a * (2:Int) ^ (min n 32) = ((a.toNat * 2 ^ (min n 32):Nat):Int):=by rw [Int.natCast_mul,Int.natCast_pow];rfl
 rw [e]
 have hw:∀ m:Nat,IntKind.wrap .u32 (m:Int) = ((m % 4294967296:Nat):Int):=by
  intro m;simp [IntKind.wrap,IntKind.signed,IntKind.bits]
 rw [hw];unfold asI;rw [BitVec.toNat_shiftLeft,Nat.shiftLeft_eq];by_cases h:n <= 32
 · rw [bmn h]
 rw [Nat.min_eq_right bos];have h1:a.toNat * 2 ^ 32 % 2 ^ 32 = 0:=Nat.mul_mod_left _ _
 have h2:a.toNat * 2 ^ n % 2 ^ 32 = 0:=by
  obtain ⟨k,rfl⟩:∃ k,n = k + 32:=⟨n - 32,by omega⟩;rw [Nat.pow_add,<- Nat.mul_assoc];exact Nat.mul_mod_left _ _
 have h1:a.toNat * 2 ^ 32 % 4294967296 = 0:=h1;rw [h1,h2]
end
section
structure Fd where
 lhs:AS
 rhs:AS
instance:Inhabited Fd:=⟨⟨0,0⟩⟩
theorem Fd.eq_iff {a b:Fd}:a = b <-> a.lhs = b.lhs /\ a.rhs = b.rhs:=by cases a;cases b;simp
instance:DecidableEq Fd:=fun a b=>decidable_of_iff _ (Fd.eq_iff (a:=a) (b:=b)).symm
def Fd.c (x:Fd):Nat -> PV
 | 0=>asC x.lhs
 | 1=>asC x.rhs
 | _=>.any
def sub (a b:AS):Prop:=a &&& ~~~b = 0
instance:DecidablePred fun p:AS × AS=>sub p.1 p.2:=fun p=>inferInstanceAs (Decidable (_ = _))
instance {a b:AS}:Decidable (sub a b):=inferInstanceAs (Decidable (_ = _))
section
variable {a b:AS}
theorem ai:sub a b <-> ∀ i,i < 32 -> a.getLsbD i = true -> b.getLsbD i = true:=by
 unfold sub;constructor
 · intro h i hi ha
   have:=congrArg (fun x:AS=>x.getLsbD i) h;simp only [bkz,bmq,hi,ha,decide_true,bmt] at this;simpa using this
 intro h;apply bm6;intro i hi;have:=h i hi;simp only [bkz,bmq,hi,decide_true,bmt];cases ha:a.getLsbD i <;> cases hb:b.getLsbD i <;> simp_all
theorem io (a:AS):sub a a:=ai.2 fun _ _ h=>h
theorem gk {c:AS} (h:sub a b) (k:sub b c):sub a c:=ai.2 fun i hi ha=>ai.1 k i hi (ai.1 h i hi ha)
theorem zk:sub a (a ||| b):=ai.2 fun i hi ha=>by simp [ha]
theorem a3j:sub b (a ||| b):=ai.2 fun i hi ha=>by simp [ha]
theorem a2n {c:AS} (h:sub a c) (k:sub b c):sub (a ||| b) c:=ai.2 fun i hi ha=>by
 rw [bm9,bmf] at ha
 rcases ha with ha | ha
 · exact ai.1 h i hi ha
 exact ai.1 k i hi ha
theorem ec (h:sub a b) (k:sub b a):a = b:=by
 apply bm6;intro i hi;have h1:=ai.1 h i hi;have h2:=ai.1 k i hi;cases ha:a.getLsbD i <;> cases hb:b.getLsbD i <;> simp_all
theorem ac6 (h:sub a b):a.toNat <= b.toNat:=by
 have e:a ||| b = b:=ec (a2n h (io b)) a3j
 have:a.toNat <= (a ||| b).toNat:=by rw [BitVec.toNat_or];exact Nat.left_le_or
 rwa [e] at this
theorem ze (h:sub a b) (hne:a ≠ b):a.toNat < b.toNat:=by
 rcases bn5 (ac6 h) with h | h
 · exact h
 exact absurd (bln h) hne
theorem apv:sub a b <-> a &&& b = a:=by
 rw [ai];constructor
 · intro h
   apply bm6;intro i hi;have:=h i hi;rw [bkz];cases ha:a.getLsbD i <;> simp_all
 intro h i hi ha;have:=congrArg (fun x:AS=>x.getLsbD i) h;simp only [bkz,ha,bmt] at this;exact this
def fu (s:AS) (f:Fd):AS:=if sub f.lhs s then s ||| f.rhs else s
def dn (l:List Fd) (s:AS):AS:=l.foldl fu s
variable {s:AS}
theorem aau {f:Fd}:sub s (fu s f):=by
 unfold fu;split
 · exact zk
 exact io s
theorem n7:∀ {l:List Fd} {s:AS},sub s (dn l s)
 | [],s=>io s
 | f :: l,s=>gk aau (n7 (l:=l) (s:=fu s f))
def clF (l:List Fd):Nat -> AS -> AS
 | 0,s=>s
 | n + 1,s=>if dn l s = s then s else clF l n (dn l s)
def clo (l:List Fd) (s:AS):AS:=clF l 4294967296 s
variable {l:List Fd}
theorem ajt:∀ {n m:Nat} {s:AS},4294967296 - s.toNat <= n -> 4294967296 - s.toNat <= m -> clF l n s = clF l m s
 | 0,m,s,hn,hm=>by have:=s.isLt;omega
 | n + 1,0,s,hn,hm=>by have:=s.isLt;omega
 | n + 1,m + 1,s,hn,hm=>by
  unfold clF;split
  · rfl
  rename_i hne;have:=ze (n7 (l:=l) (s:=s)) (fun e=>hne e.symm);exact ajt bos bos
theorem aq0 (h:dn l s = s):clo l s = s:=by
 show clF l (4294967295 + 1) s = s;unfold clF;rw [if_pos h]
theorem aiy:clo l (dn l s) = clo l s:=by
 by_cases h:dn l s = s
 · rw [h]
 have e:clo l s = clF l 4294967295 (dn l s):=by
  show clF l (4294967295 + 1) s = _;rw [clF,if_neg h]
 rw [e];have:=ze (n7 (l:=l) (s:=s)) (fun e=>h e.symm);exact ajt bos bos
theorem acb:∀ {n:Nat} {s:AS},4294967296 - s.toNat <= n -> dn l (clF l n s) = clF l n s
 | 0,s,hn=>by have:=s.isLt;omega
 | n + 1,s,hn=>by
  unfold clF;split
  · assumption
  rename_i hne;have:=ze (n7 (l:=l) (s:=s)) (fun e=>hne e.symm);exact acb bos
theorem arz:dn l (clo l s) = clo l s:=acb bos
theorem axh:∀ {n:Nat} {s:AS},sub s (clF l n s)
 | 0,s=>io s
 | n + 1,s=>by
  unfold clF;split
  · exact io s
  exact gk n7 axh
theorem qt:sub s (clo l s):=axh
def sy (l:List Fd) (s:AS):Prop:=∀ f ∈ l,sub f.lhs s -> sub f.rhs s
theorem xb:∀ {l:List Fd} {s:AS},dn l s = s <-> sy l s
 | [],s=>⟨fun _ f hf=>(by cases hf),fun _=>rfl⟩
 | f :: l,s=>by
  constructor
  · intro h
    have h1:fu s f = s:=ec (by have:=n7 (l:=l) (s:=fu s f);rw [show dn l (fu s f) = s from h] at this;exact this) aau
    have h2:dn l s = s:=by
     have:dn l (fu s f) = s:=h;rwa [h1] at this
    intro g hg
    rcases bkx.1 hg with rfl | hg
    · intro hl
      rw [fu,if_pos hl] at h1;rw [<- h1];exact a3j
    exact xb.1 h2 g hg
  intro h
  have h1:fu s f = s:=by
   unfold fu;split
   · rename_i hl
     exact ec (a2n (io s) (h f (bly ..) hl)) zk
   rfl
  show dn l (fu s f) = s;rw [h1];exact xb.2 fun g hg=>h g (bm1 _ hg)
theorem acf:∀ {l:List Fd} {s t:AS},sy l t -> sub s t -> sub (dn l s) t
 | [],s,t,_,h=>h
 | f :: l,s,t,ht,h=>acf (l:=l) (fun g hg=>ht g (bm1 _ hg)) (by
  unfold fu;split
  · rename_i hl
    exact a2n h (ht f (bly ..) (gk hl h))
  exact h)
theorem aph {t:AS} (ht:sy l t):∀ {n:Nat} {s:AS},sub s t -> sub (clF l n s) t
 | 0,s,h=>h
 | n + 1,s,h=>by
  unfold clF;split
  · exact h
  exact aph ht (acf ht h)
theorem a00 {t:AS} (ht:sy l t) (h:sub s t):sub (clo l s) t:=aph ht h
theorem ub:sy l (clo l s):=xb.1 arz
end
end
section
abbrev pI (a:Int):PC:=.one (.raw (.int .i64 a))
abbrev pB (b:Bool):PC:=.one (.raw (.bool b))
abbrev pP (x:PV):PC:=.one x
abbrev pA (s:AS):PC:=.one (.raw (.int .u32 (asI s)))
abbrev fdl (l:List Fd):PV:=psl 2 Fd.c l
abbrev asl (l:List AS):PV:=psl 1 (fun s _=>asC s) l
abbrev vI (a:Int):HR:=bn (.raw (.int .i64 a))
abbrev vA (s:AS):HR:=bn (.raw (.int .u32 (asI s)))
theorem acq {l:List Fd} {s:AS} {i:Nat} (hi:i < l.length):dn (l.take (i + 1)) s = fu (dn (l.take i) s) (l.getD i default):=by
 unfold dn;rw [List.take_succ,bkj hi,bm0,bkk,bkj hi];rfl
theorem jd {a b:AS}:aw .andNot .u32 (asI a) (asI b) = 0 <-> sub a b:=by
 rw [go,show (0:Int) = asI 0 from rfl,cg];exact Iff.rfl
section
variable {f:Fd}
theorem bbl {S:AS} (h:aw .andNot .u32 (asI f.lhs) (asI S) = 0):aw .or .u32 (asI S) (asI f.rhs) = asI (fu S f):=by
 rw [bOr,fu,if_pos (jd.1 h)]
theorem bdi {S:AS} (h:¬ aw .andNot .u32 (asI f.lhs) (asI S) = 0):fu S f = S:=if_neg fun e=>h (jd.2 e)
theorem cl_t' {S:AS} (h:decide (sub f.lhs S) = true):aw .or .u32 (asI S) (asI f.rhs) = asI (fu S f):=by
 rw [bOr,fu,if_pos (of_decide_eq_true h)]
theorem cl_f' {S:AS} (h:decide (sub f.lhs S) = false):fu S f = S:=if_neg (of_decide_eq_false h)
def inU (n:Int) (f:Fd):Bool:=decide ((f.lhs ||| f.rhs) >>> n.toNat = 0)
def bj (n:Int) (l:List Fd):Int:=if n < 0 \/ 16 < n then 7 else if 64 < l.length then 3 else if l.all (inU n) = true then 0 else 1
theorem a7k {n:Int}:(aw .or .u32 (asI f.lhs) (asI f.rhs)).fdiv (2 ^ (min n.toNat 32)) = 0 <-> inU n f = true:=by
 rw [bOr,xe,show (0:Int) = asI 0 from rfl,cg];unfold inU;rw [decide_eq_true_iff]
theorem bw {k:IntKind} {a b:Int} (h:a = b):CoR (bn (.raw (.int k a))) (bn (.raw (.int k b))):=by
 rw [h];exact CoR.refl _
def jw (n:Nat):AS:=(List.range n).foldl (fun s i=>s ||| ((1:AS) <<< i)) 0
def aa (n:Int):AS:=jw (min n.toNat 32)
theorem aav (i:Nat):jw (i + 1) = jw i ||| ((1:AS) <<< i):=by
 unfold jw;rw [bmg,bm0];rfl
theorem axj (i:Nat):aw .or .u32 (asI (jw i)) (IntKind.wrap .u32 (1 * 2 ^ (min i 32))) = asI (jw (i + 1)):=by
 have e:IntKind.wrap .u32 (1 * 2 ^ (min i 32)) = asI ((1:AS) <<< i):=akq 1 i;rw [e,bOr,aav]
end
end
section
open Go.Proofs
theorem ny:goodFn Tryz.prog 125:=wgx Tryz.func125
theorem w3 (a b:AS):a7 Tryz.prog 125 [pA a,pA b] (ae [pB (decide (sub a b))]):=by
 refine hpx (nt:=10) Tryz.func125 ?_;refine ik ?_;exact hx8 rfl rfl rfl (⟨ccb (decide_eq_decide.2 (by rw [fj,cg];exact apv.symm)),trivial⟩)
theorem t6:goodFn Tryz.prog 120:=wgx Tryz.func120
theorem bot {p:Prop} (h:p:=by assumption):p:=h
theorem x6 (l:List Fd) (s0:AS):a7 Tryz.prog 120 [pP (fdl l),pA s0] (ae [pA (clo l s0)]):=by
 refine hpx (nt:=29) Tryz.func120 ?_;refine cq ?_;refine cb 0 rfl fun hlen=>?_;refine w_4 ?_;refine a6 (ι:=AS) ⟨[(0,some _)],[]⟩ ⟨⟨c9,trivial⟩,trivial⟩ (fun s=>⟨[(1,some (vA s))],[]⟩) (fun s=>clo l s = clo l s0) (fun s=>4294967296 - s.toNat) (s0) (rfl) ⟨⟨zy,trivial⟩,trivial⟩ ?_;rintro s hs;refine oe ?_;refine a6 (ι:=Nat) ⟨[(0,some _),(5,some _),(9,some _),(10,some _)],[]⟩ ⟨⟨c9,c9,c9,c9,trivial⟩,trivial⟩ (fun i=>⟨[(11,some (vI i)),(1,some (vA (dn (l.take i) s)))],[]⟩) (fun i=>i <= l.length) (fun i=>l.length - i) (0) (bkl _) ⟨⟨zy,zy,trivial⟩,trivial⟩ ?_;rintro i hi;refine w_5 ?_;refine hcd (fun h0=>?_) (fun h0=>?_)
 ·
  refine w_7 ?_;refine m9 0 ?_;refine ce ?_;refine hcd (fun h1=>?_) (fun h1=>?_)
  · refine cu ?_;exact lpx (i + 1) ⟨⟨zy,⟨_,rfl,(by rw [acq bos];first | (rw [bdi bot];exact CoR.refl _) | (simp only [bkw];rw [bbl bot];exact CoR.refl _))⟩,c9,c9,c9,c9,trivial⟩,trivial⟩
  refine w_5 ?_;exact lpx (i + 1) ⟨⟨zy,⟨_,rfl,(by rw [acq bos];first | (rw [bdi bot];exact CoR.refl _) | (simp only [bkw];rw [bbl bot];exact CoR.refl _))⟩,c9,c9,c9,c9,trivial⟩,trivial⟩
 obtain rfl:i = l.length:=by omega
 refine w_7 ?_;refine hcd (fun h2=>?_) (fun h2=>?_)
 ·
  refine w_6 ?_;refine ⟨.inr rfl, ?_⟩
  have e2:dn l s = s:=by
   have:=cg.1 bot;rwa [bks] at this
  exact f9 rfl rfl (⟨cci (by rw [bks,e2,<- hs,aq0 e2]),trivial⟩)
 refine d7 ?_;refine ⟨dn l s, ?_, ?_, ?_⟩
 · show clo l (dn l s) = clo l s0
   rw [aiy];exact hs
 · have hne:¬ dn l s = s:=fun e=>absurd (congrArg asI e) (by rw [bks] at *;assumption)
   have:=ze (n7 (l:=l) (s:=s)) (fun e=>hne e.symm);have:=(dn l s).isLt;show 4294967296 - (dn l s).toNat < 4294967296 - s.toNat;omega
 exact ⟨⟨⟨_,rfl,(by rw [bks];exact CoR.refl _)⟩,c9,trivial⟩,trivial⟩
theorem a8a:goodFn Tryz.prog 126:=wgx Tryz.func126
theorem a7z (l:List Fd) (s0:AS):a7 Tryz.prog 126 [pP (fdl l),pA s0] (ae [pA (clo l s0)]):=by
 refine hpx (nt:=32) Tryz.func126 ?_;refine cq ?_;refine cb 0 rfl fun hlen=>?_;refine w_4 ?_;refine a6 (ι:=AS) ⟨[(0,some _)],[]⟩ ⟨⟨c9,trivial⟩,trivial⟩ (fun s=>⟨[(1,some (vA s))],[]⟩) (fun s=>clo l s = clo l s0) (fun s=>4294967296 - s.toNat) (s0) (rfl) ⟨⟨zy,trivial⟩,trivial⟩ ?_;rintro s hs;refine ef ?_;refine a6 (ι:=Nat) ⟨[(0,some _),(5,some _)],[]⟩ ⟨⟨c9,c9,trivial⟩,trivial⟩ (fun i=>⟨[(6,some (vI i)),(1,some (vA (dn (l.take i) s)))],[]⟩) (fun i=>i <= l.length) (fun i=>l.length - i) (0) (bkl _) ⟨⟨zy,zy,trivial⟩,trivial⟩ ?_;rintro i hi;refine w_8 ?_;refine hcd (fun h0=>?_) (fun h0=>?_)
 ·
  refine cu ?_;refine qcx ny (w3 (l.getD i default).lhs (dn (l.take i) s)) ?_;refine aq ?_;refine hcb (fun h1=>?_) (fun h1=>?_)
  · refine ku ?_;exact lpx (i + 1) ⟨⟨zy,⟨_,rfl,(by rw [acq bos];first | (rw [cl_f' bot];exact CoR.refl _) | (simp only [bkw];rw [cl_t' bot];exact CoR.refl _))⟩,c9,c9,trivial⟩,trivial⟩
  refine w_6 ?_;exact lpx (i + 1) ⟨⟨zy,⟨_,rfl,(by rw [acq bos];first | (rw [cl_f' bot];exact CoR.refl _) | (simp only [bkw];rw [cl_t' bot];exact CoR.refl _))⟩,c9,c9,trivial⟩,trivial⟩
 obtain rfl:i = l.length:=by omega
 refine w_7 ?_;refine hcd (fun h2=>?_) (fun h2=>?_)
 ·
  refine w_6 ?_;refine ⟨.inr rfl, ?_⟩
  have e2:dn l s = s:=by
   have:=cg.1 bot;rwa [bks] at this
  exact f9 rfl rfl (⟨cci (by rw [bks,e2,<- hs,aq0 e2]),trivial⟩)
 refine d7 ?_;refine ⟨dn l s, ?_, ?_, ?_⟩
 · show clo l (dn l s) = clo l s0
   rw [aiy];exact hs
 · have hne:¬ dn l s = s:=fun e=>absurd (congrArg asI e) (by rw [bks] at *;assumption)
   have:=ze (n7 (l:=l) (s:=s)) (fun e=>hne e.symm);have:=(dn l s).isLt;show 4294967296 - (dn l s).toNat < 4294967296 - s.toNat;omega
 exact ⟨⟨⟨_,rfl,(by rw [bks];exact CoR.refl _)⟩,c9,trivial⟩,trivial⟩
theorem uz:goodFn Tryz.prog 113:=wgx Tryz.func113
theorem zr (n:Int) (l:List Fd):a7 Tryz.prog 113 [pI n,pP (fdl l)] (ae [pI (bj n l)]):=by
 refine hpx (nt:=31) Tryz.func113 ?_;refine cq ?_;refine cb 1 rfl fun hlen=>?_;refine w_9 ?_;refine am rfl rfl (fun r0=>?_) (fun r0=>?_)
 ·
  have h0:=tz1 r0;(iterate 2 refine k9 (gtf r0) ?_);refine rq rfl rfl rfl rfl rfl ?_ (hp:=r0);refine aq ?_;refine a8 _ rfl (fun _=>?_) (fun e=>by cases e);refine w_4 ?_
  exact hx8 rfl rfl rfl (⟨cci (by rw [bj,if_pos bos]),trivial⟩)
 have h0:=tz2 r0;(iterate 2 refine qy ?_ (hg:=(gff r0)));refine w_2 ?_;refine a8 _ rfl (fun r1=>?_) (fun r1=>?_)
 · have h1:=tz1 (au r0 r1);refine w_4 ?_;exact hx8 rfl rfl rfl (⟨cci (by rw [bj,if_pos bos]),trivial⟩)
 have h1:=tz2 (au r0 r1);refine w_8 ?_;refine hcd (fun h2=>?_) (fun h2=>?_)
 · refine w_4 ?_;exact hx8 rfl rfl rfl (⟨cci (by rw [bj,if_neg bos,if_pos bos]),trivial⟩)
 refine w_9 ?_;refine a6 (ι:=Nat) ⟨[(0,some _),(16,some _),(17,some _)],[]⟩ ⟨⟨c9,c9,c9,trivial⟩,trivial⟩ (fun i=>⟨[(18,some (vI i))],[]⟩) (fun i=>i <= l.length /\ ∀ j,j < i -> inU n (l.getD j default) = true) (fun i=>l.length - i) (0) (⟨bkl _,fun j hj=>absurd hj (bkp j)⟩) ⟨⟨zy,trivial⟩,trivial⟩ ?_;rintro i ⟨hi,hI⟩;refine w_5 ?_;refine hcd (fun h3=>?_) (fun h3=>?_)
 ·
  refine w_7 ?_;refine m9 0 ?_;refine ik ?_;refine hcn (fun h4=>?_) (fun h4=>?_)
  · refine w_4 ?_;exact hx8 rfl rfl rfl (⟨cci (by rw [bj,if_neg bos,if_neg bos,if_neg (fun e=>absurd (abq (l:=l) (p:=inU n) (i:=i) bos (by rw [bkv];exact fun e=>absurd (a7k.2 e) bot)) (by rw [e];decide))]),trivial⟩)
  refine w_5 ?_;refine lpz (i + 1) ⟨⟨zy,c9,c9,c9,trivial⟩,trivial⟩ ?_;refine ⟨by omega,fun j hj=>?_⟩
  rcases bn5 (bng hj) with h | h
  · exact hI j h
  subst h;exact a7k.1 bot
 obtain rfl:i = l.length:=by omega
 refine w_5 ?_;exact hx8 rfl rfl rfl (⟨cci (by rw [bj,if_neg bos,if_neg bos,if_pos (ahe fun j hj=>hI j hj)]),trivial⟩)
theorem ol:goodFn Tryz.prog 50:=wgx Tryz.func50
theorem oq (n:Int):a7 Tryz.prog 50 [pI n] (ae [pA (aa n)]):=by
 refine hpx (nt:=19) Tryz.func50 ?_;refine oe ?_;refine a6 (ι:=Nat) ⟨[(0,some _)],[]⟩ ⟨⟨c9,trivial⟩,trivial⟩ (fun i=>⟨[(4,some (vI i)),(3,some (vA (jw i)))],[]⟩) (fun i=>i <= min n.toNat 32) (fun i=>min n.toNat 32 - i) (0) (bkl _) ⟨⟨zy,zy,trivial⟩,trivial⟩ ?_;rintro i hi;refine w_7 ?_;refine am rfl rfl (fun r0=>?_) (fun r0=>?_)
 ·
  have h0:=tz1 r0;(iterate 2 refine qy ?_ (hg:=(gtt r0)));refine w_2 ?_;refine a8 _ rfl (fun r1=>?_) (fun r1=>?_)
  · have h1:=tz1 (bp r0 r1);refine ku ?_;exact lpx (i + 1) ⟨⟨zy,⟨_,rfl,(by simp only [bkw];exact bw (axj i))⟩,c9,trivial⟩,trivial⟩
  have h1:=tz2 (bp r0 r1);obtain rfl:i = min n.toNat 32:=by omega
  refine w_6 ?_;exact hx8 rfl rfl rfl (CoL.refl _)
 have h0:=tz2 r0;obtain rfl:i = min n.toNat 32:=by omega
 (iterate 2 refine k9 (gft r0) ?_);refine rq rfl rfl rfl rfl rfl ?_ (hp:=r0);refine aq ?_;refine a8 _ rfl (fun e=>by cases e) (fun _=>?_);refine w_6 ?_
 exact hx8 rfl rfl rfl (CoL.refl _)
end
end Go.Hx
