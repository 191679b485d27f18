/- A part of the proof: HxEnv Hx19 Hx23 Cs1 Cs3 V1 Cs4 V2 Cl1 V3 Cl2 V4 Cs5 V5 Cs2 Cs6. -/
import Derived.Deep.AppendLies
import Derived.Laws.CopyRow
import Derived.Lib.TrailingZeros
import Derived.Shelf.Spec.SlicesInsertGrow
import Derived.Test.YtcepfnkhagkdeaaGreatDoorProg
import Derived.Test.YtcepfnkhagkdeaaGreatDoorUx05
set_option linter.all false
open Go.Proofs.Tryz
set_option maxRecDepth 100000
set_option maxHeartbeats 1000000
section
namespace Go.Hx
open Go.Proofs
noncomputable abbrev Ab:=Tryz.prog
def zk:List (Nat×Nat):=[(22,26),(25,102),(26,5),(29,9),(30,82),(35,52),(36,54),(37,48),(42,32),(63,187),(80,100),(89,3),(133,139),(137,89),(294,35)]
def JK:List (Nat×TI):=[(1,⟨.func,1,8,some [.nilFunc],false,false,true⟩),(2,⟨.int .i64,1,8,some [.int .i64 0],false,false,true⟩),(3,⟨.int .i64,1,8,some [.int .i64 0],false,false,true⟩),(4,⟨.bool,1,1,some [.bool false],false,false,true⟩),(5,⟨.int .u8,1,1,some [.int .u8 0],false,false,true⟩),(6,⟨.int .u8,1,1,some [.int .u8 0],false,false,true⟩),(7,⟨.struct [(0,2,false),(1,3,false),(2,4,false),(3,6,false)],4,24,some [.int .i64 0, .int .i64 0, .bool false, .int .u8 0],false,false,false⟩),(8,⟨.struct [(0,2,false),(1,3,false),(2,4,false),(3,6,false)],4,24,some [.int .i64 0, .int .i64 0, .bool false, .int .u8 0],false,false,false⟩),(9,⟨.string,1,16,some [.string ⟨#[]⟩],false,false,true⟩),(23,⟨.struct [(0,5,false),(1,5,false),(2,22,false)],3,32,some [.int .u8 0, .int .u8 0, .slice none 0 0],false,false,false⟩),(24,⟨.struct [(0,5,false),(1,5,false),(2,22,false)],3,32,some [.int .u8 0, .int .u8 0, .slice none 0 0],false,false,false⟩),(27,⟨.struct [(0,5,false),(1,25,false),(2,25,false),(3,26,false)],4,80,some [.int .u8 0, .slice none 0 0, .slice none 0 0, .slice none 0 0],false,false,false⟩),(28,⟨.struct [(0,5,false),(1,25,false),(2,25,false),(3,26,false)],4,80,some [.int .u8 0, .slice none 0 0, .slice none 0 0, .slice none 0 0],false,false,false⟩),(31,⟨.struct [(0,9,false),(1,29,false),(2,30,false)],3,64,some [.string ⟨#[]⟩, .slice none 0 0, .slice none 0 0],false,false,false⟩),(32,⟨.struct [(0,9,false),(1,29,false),(2,30,false)],3,64,some [.string ⟨#[]⟩, .slice none 0 0, .slice none 0 0],false,false,false⟩),(43,⟨.int .i64,1,8,some [.int .i64 0],false,false,true⟩),(45,⟨.func,1,8,some [.nilFunc],false,false,true⟩),(47,⟨.int .u32,1,4,some [.int .u32 0],false,false,true⟩),(48,⟨.int .u32,1,4,some [.int .u32 0],false,false,true⟩),(50,⟨.func,1,8,some [.nilFunc],false,false,true⟩),(51,⟨.struct [(0,48,false),(1,48,false)],2,8,some [.int .u32 0, .int .u32 0],false,false,false⟩),(52,⟨.struct [(0,48,false),(1,48,false)],2,8,some [.int .u32 0, .int .u32 0],false,false,false⟩),(54,⟨.struct [(0,48,false),(1,48,false)],2,8,some [.int .u32 0, .int .u32 0],false,false,false⟩),(56,⟨.func,1,8,some [.nilFunc],false,false,true⟩),(64,⟨.struct [(0,37,false),(1,3,false),(2,63,false)],3,56,some [.slice none 0 0, .int .i64 0, .slice none 0 0],false,false,false⟩),(65,⟨.struct [(0,37,false),(1,3,false),(2,63,false)],3,56,some [.slice none 0 0, .int .i64 0, .slice none 0 0],false,false,false⟩),(81,⟨.struct [(0,2,false),(1,80,false)],2,32,some [.int .i64 0, .slice none 0 0],false,false,false⟩),(82,⟨.struct [(0,2,false),(1,80,false)],2,32,some [.int .i64 0, .slice none 0 0],false,false,false⟩),(91,⟨.map 9 80,1,8,some [.map none],false,false,true⟩),(98,⟨.func,1,8,some [.nilFunc],false,false,true⟩),(99,⟨.struct [(0,3,false),(1,2,false),(2,9,false)],3,32,some [.int .i64 0, .int .i64 0, .string ⟨#[]⟩],false,false,false⟩),(100,⟨.struct [(0,3,false),(1,2,false),(2,9,false)],3,32,some [.int .i64 0, .int .i64 0, .string ⟨#[]⟩],false,false,false⟩),(102,⟨.array 2 5,2,2,some [.int .u8 0, .int .u8 0],false,false,false⟩),(103,⟨.func,1,8,some [.nilFunc],false,false,true⟩),(111,⟨.func,1,8,some [.nilFunc],false,false,true⟩),(112,⟨.pointer 114,1,8,some [.pointer none],false,false,true⟩),(113,⟨.struct [(0,112,false),(1,26,false)],2,32,some [.pointer none, .slice none 0 0],false,false,false⟩),(114,⟨.struct [(0,112,false),(1,26,false)],2,32,some [.pointer none, .slice none 0 0],false,false,false⟩),(126,⟨.map 9 4,1,8,some [.map none],false,false,true⟩),(132,⟨.func,1,8,some [.nilFunc],false,false,true⟩),(138,⟨.struct [(0,3,false),(1,137,false)],2,32,some [.int .i64 0, .slice none 0 0],false,false,false⟩),(139,⟨.struct [(0,3,false),(1,137,false)],2,32,some [.int .i64 0, .slice none 0 0],false,false,false⟩),(144,⟨.int .u64,1,8,some [.int .u64 0],false,false,true⟩),(160,⟨.func,1,8,some [.nilFunc],false,false,true⟩),(166,⟨.func,1,8,some [.nilFunc],false,false,true⟩),(168,⟨.pointer 5,1,8,some [.pointer none],false,false,true⟩),(170,⟨.func,1,8,some [.nilFunc],false,false,true⟩),(171,⟨.func,1,8,some [.nilFunc],false,false,true⟩),(177,⟨.func,1,8,some [.nilFunc],false,false,true⟩),(179,⟨.func,1,8,some [.nilFunc],false,false,true⟩),(186,⟨.struct [(0,4,false),(1,3,false),(2,3,false),(3,3,false)],4,32,some [.bool false, .int .i64 0, .int .i64 0, .int .i64 0],false,false,false⟩),(187,⟨.struct [(0,4,false),(1,3,false),(2,3,false),(3,3,false)],4,32,some [.bool false, .int .i64 0, .int .i64 0, .int .i64 0],false,false,false⟩),(188,⟨.func,1,8,some [.nilFunc],false,false,true⟩),(191,⟨.int .i64,1,8,some [.int .i64 0],false,false,true⟩),(195,⟨.func,1,8,some [.nilFunc],false,false,true⟩),(196,⟨.func,1,8,some [.nilFunc],false,false,true⟩),(200,⟨.int .u64,1,8,some [.int .u64 0],false,false,true⟩),(201,⟨.func,1,8,some [.nilFunc],false,false,true⟩),(205,⟨.struct [(0,3,false),(1,35,false),(2,36,false)],3,56,some [.int .i64 0, .slice none 0 0, .slice none 0 0],false,false,false⟩),(206,⟨.struct [(0,3,false),(1,35,false),(2,36,false)],3,56,some [.int .i64 0, .slice none 0 0, .slice none 0 0],false,false,false⟩),(211,⟨.array 32 5,32,32,some [.int .u8 0, .int .u8 0, .int .u8 0, .int .u8 0, .int .u8 0, .int .u8 0, .int .u8 0, .int .u8 0, .int .u8 0, .int .u8 0, .int .u8 0, .int .u8 0, .int .u8 0, .int .u8 0, .int .u8 0, .int .u8 0, .int .u8 0, .int .u8 0, .int .u8 0, .int .u8 0, .int .u8 0, .int .u8 0, .int .u8 0, .int .u8 0, .int .u8 0, .int .u8 0, .int .u8 0, .int .u8 0, .int .u8 0, .int .u8 0, .int .u8 0, .int .u8 0],false,false,false⟩),(219,⟨.array 24 5,24,24,some [.int .u8 0, .int .u8 0, .int .u8 0, .int .u8 0, .int .u8 0, .int .u8 0, .int .u8 0, .int .u8 0, .int .u8 0, .int .u8 0, .int .u8 0, .int .u8 0, .int .u8 0, .int .u8 0, .int .u8 0, .int .u8 0, .int .u8 0, .int .u8 0, .int .u8 0, .int .u8 0, .int .u8 0, .int .u8 0, .int .u8 0, .int .u8 0],false,false,false⟩),(227,⟨.func,1,8,some [.nilFunc],false,false,true⟩),(233,⟨.int .u64,1,8,some [.int .u64 0],false,false,true⟩),(237,⟨.pointer 3,1,8,some [.pointer none],false,false,true⟩),(239,⟨.map 48 48,1,8,some [.map none],false,false,true⟩),(243,⟨.func,1,8,some [.nilFunc],false,false,true⟩),(246,⟨.func,1,8,some [.nilFunc],false,false,true⟩),(251,⟨.func,1,8,some [.nilFunc],false,false,true⟩),(258,⟨.func,1,8,some [.nilFunc],false,false,true⟩),(261,⟨.pointer 233,1,8,some [.pointer none],false,false,true⟩),(283,⟨.func,1,8,some [.nilFunc],false,false,true⟩)]
def Vv {α:Type}:List (Nat×α)->Nat->Option α
 | [],_=>none
 |(a,x)::r,n=>bif Nat.beq a n then some x else Vv r n
def ig:Xc:=λt=>match Vv zk t with|some e=>some ⟨.slice e,1,24,some [.slice none 0 0],false,false,true⟩|none=>Vv JK t
def BJ {α:Type}:∀{l:List (Nat×α)} {t:Nat} {i:α},Vv l t=some i->(t,i)∈l
 | (a,x)::r,t,i,h=>by
  simp only[Vv]at h
  cases hb:Nat.beq a t with
  |true=>rw[hb]at h;cases h;rw[Vi hb];exact Yh
  |false=>rw[hb]at h;exact Jh _ (BJ h)
def b43:JK.map (λp=>Pm Ab p.1)=JK.map (λp=>some p.2):=by kernel_rfl
def ayl:zk.map (λp=>Pm Ab p.1)=zk.map (λp=>some ⟨.slice p.2,1,24,some [.slice none 0 0],false,false,true⟩):=by kernel_rfl
def gi:dl Ab ig:=λt i h=>by
 unfold ig at h
 cases hs:Vv zk t with
 |some e=>rw[hs]at h;cases h;exact List.map_inj_left.1 ayl (t,e) (BJ hs)
 |none=>rw[hs]at h;exact List.map_inj_left.1 b43 (t,i) (BJ h)
def EF:Ab.follows .mixedOrders=true:=by kernel_rfl
end Go.Hx
namespace Go.Hx
open Go.Proofs
section
variable {ro:Option Nat}{P:Program}{E:Xc}{nt:Nat}{ops:Array Oper}{i:Nat}{o:Oper}{st:Qb}{L:List Nat}{K:List Tr->Qb->Prop}{Q:Exit->Qb->Prop}
section
variable {gb:Bool}
def qy {out:Ge} (hT:Td P E nt ops L (st.after o.dst (some out.val) []) λT sf=>K (⟨i,Us true out.val.ids,looks st.den o,d8 st.den o.dst [],gf E st.den o⟩::T) sf) (hi:ops[i]? = some o:=by exact rfl) (hw:b6 ops st.den o=some gb:=by exact rfl) (hd:dc nt o.dst=true:=by exact rfl) (hq':hq E true st.den.o (ev st.den) o.op=some out:=by exact rfl) (hg:gb=true:=by exact rfl) (hp:out.pre:=by first|exact trivial|(simp only[l3,Nl,yw,Un];omega)|exact uH _ _|exact⟨Aa,Aa⟩|exact⟨Aa,Re rfl⟩|(try dsimp only)<;>((repeat' apply And.intro)<;>first|trivial|rfl|omega|(simp only[ep,bh];omega)|assumption|exact Re rfl)):
 Td P E nt ops (i::L) st K:=db true hi hw hd hq' hg hp hT
def k9(hg:gb=false)(hT:Td P E nt ops L (st.after o.dst (some (.tup [])) []) λT sf=>K (⟨i,Us true [],looks st.den o,d8 st.den o.dst [],none⟩::T) sf)(hi:ops[i]? = some o:=by exact rfl)(hw:b6 ops st.den o=some gb:=by exact rfl)(hd:dc nt o.dst=true:=by exact rfl):Td P E nt ops (i::L) st K:=DR hi hw hd hg hT
def m9(id:Nat){nw:Uy}(hT:Td P E nt ops L (st.after o.dst (some nw.val) [(id,some nw.ob)]) λT sf=>K (⟨i,⟨id,false,true, .tup [],[id],[id],nw.val.ids++nw.ob.ids⟩,looks st.den o,d8 st.den o.dst [(id,some nw.ob)],none⟩::T) sf)(hi:ops[i]? = some o:=by exact rfl)(hw:b6 ops st.den o=some gb:=by exact rfl)(hd:dc nt o.dst=true:=by exact rfl)(hq':ha E (ev st.den) id o.op=some nw:=by exact rfl)(hn:qb id st=true:=by exact rfl)(hg:gb=true:=by exact rfl)(hp:nw.pre:=by first|exact trivial|(try dsimp only)<;>((repeat' apply And.intro)<;>first|trivial|rfl|omega|assumption)):Td P E nt ops (i::L) st K:=zw id hi hw hd hq' hn hg hp hT
def s9{u:Bj}(hT:Td P E nt ops L (st.after o.dst none [(u.id,some u.ob)]) λT sf=>K (⟨i,⟨0,false,true, .tup [],[u.id],[],u.ob.ids⟩,looks st.den o,d8 st.den o.dst [(u.id,some u.ob)],gf E st.den o⟩::T) sf)(hi:ops[i]? = some o:=by exact rfl)(hw:b6 ops st.den o=some gb:=by exact rfl)(hd:dc nt o.dst=true:=by exact rfl)(hq':hs E st.den.o (ev st.den) o.op=some u:=by exact rfl)(hg:gb=true:=by exact rfl)(hp:u.pre:=by first|exact Re rfl|(try dsimp only)<;>((repeat' apply And.intro)<;>first|trivial|rfl|omega|(simp only[ep,bh];omega)|assumption|exact Re rfl)):Td P E nt ops (i::L) st K:=XS hi hw hd hq' hg hp hT
variable {p:Prop}
def f9{rs:List ResultVar}{res:List PC}{q:Prop}{l:List HC}{vs:List PC}(h1:Qm E st.den rs=some (p,l))(h2:qt st.den.o l=some (q,vs))(hc:Sg vs res)(hp:p:=by(repeat' apply And.intro)<;>first|trivial|exact Re rfl|rfl)(hq:q:=by(repeat' apply And.intro)<;>first|trivial|exact Re rfl|rfl):sA E st rs res:=⟨p,l,q,vs,h1,hp,h2,hq,hc⟩
def c9{f:Option HR}{x:HR}(h:f=some x:=by exact rfl):∃y,f=some y/\Rg y x:=⟨x,h,Rg.refl x⟩
def u9{f:Option a8}{x:a8}(h:f=some x:=by exact rfl):∃y,f=some y/\Ic y x:=⟨x,h,Ic.refl x⟩
def Qg(h:p:=by simp_all):p:=h
def zy{f:Option HR}{x y:HR}(h:f=some y:=by exact rfl)(c:Rg y x:=by first|exact Ua|exact Hd Za|exact Jf Qg):∃y,f=some y/\Rg y x:=⟨y,h,c⟩
def l9{a b:Nat}(h:Nat.ble a b=true:=by exact rfl):a<=b:=Re h
def Fb{cl:Call}{f:FuncId}{fst caps args vs:List PC}{b:Bool}{res:PR}(hf:goodFn P f)(hpure:a6 P f args res)(hT:Td P E nt ops L (st.after o.dst (some res.toH) []) λT sf=>K (⟨i,⟨0,false,true,res,[],[],[]⟩,looks st.den o,d8 st.den o.dst [],none⟩::T) sf)(hi:ops[i]? = some o:=by exact rfl)(hw:b6 ops st.den o=some gb:=by exact rfl)(hd:dc nt o.dst=true:=by exact rfl)(ho:o.op=.call cl:=by exact rfl)(hc:callee (ev st.den) cl=some (f,fst,caps):=by exact rfl)(hv:lq st.den.o (ev st.den) cl.args.toList=some (p,vs,b):=by exact rfl)(hco:Sg (fst++(vs++caps)) args:=by exact Ta)(hb:(!b||res.flat)=true:=by exact rfl)(hg:gb=true:=by exact rfl)(hp:p:=by(try dsimp only)<;>((repeat' apply And.intro)<;>first|trivial|rfl|omega|assumption)):Td P E nt ops (i::L) st K:=tR hi hw hd ho hc hv hf hpure hco hg hp hb hT
def Ib {f : FuncId} {fn : Func} (h : P.funcs[f]? = some fn) (h1 : (fn.name == "runtime.NumGoroutine") = false := by kernel_rfl) (h2 : fn.body.isNone = false := by kernel_rfl) : goodFn P f := ⟨fn, h, h1, h2⟩
def NC[Decidable p](h:decide p=true):p:=Ga h
def dG[Decidable p](h:decide p=false):¬p:=Qa h
def ty{n:Nat}:((n:Nat):Int).toNat=n:=Qe n
end
end
def gy{ro:Option Nat}{nt id:Nat}{ops:Array Oper}{st:Qb}{Q:Exit->Qb->Prop}(h:Td Ab ig nt ops (List.range ops.size) st λ_ sf=>Q .normal sf):HW (ro:=ro) Ab nt (.region id ops false) st Q:=KU gi h
end Go.Hx
namespace Go.Hx
open Go.Proofs
section
variable {Q:Exit->Qb->Prop}
def Rc{ro:Option Nat}{nt id:Nat}{ops:Array Oper}{st:Qb}{y:Code}(h:Td Ab ig nt ops (List.range ops.size) st λ_ sf=>tN (ro:=ro) Ab nt y Q .normal sf):HW (ro:=ro) Ab nt (.seq (.region id ops false) y) st Q:=cw (KU gi h)
def Nc{ro:Option Nat}{P:Program}{E:Xc}{nt:Nat}{st:Qb}{rs:List ResultVar}{res:List PC}{p q:Prop}{l:List HC}{vs:List PC}(hQ:Q .ret st=((Exit.ret=.normal\/Exit.ret=.ret)/\sA E st rs res))(h1:Qm E st.den rs=some (p,l))(h2:qt st.den.o l=some (q,vs))(hc:Sg vs res)(hp:p:=by(repeat' apply And.intro)<;>first|trivial|exact Re rfl|rfl)(hq:q:=by(repeat' apply And.intro)<;>first|trivial|exact Re rfl|rfl):HW (ro:=ro) P nt .ret st Q:=AD (hQ▸⟨.inr rfl,p,l,q,vs,h1,hp,h2,hq,hc⟩)
end
end Go.Hx
namespace Go.Hx
open Go.Proofs
def Bc{p q:Prop}{d:Decidable p}(h:decide p=true)(e:p=q:=by first|(simp only[ty];done)|(simp only[ty];exact rfl)|exact rfl):q:=e▸Ga h
def Ac{p q:Prop}{d:Decidable p}(h:decide p=false)(e:(¬p)=q:=by first|(simp only[ty];done)|(simp only[ty];exact rfl)|exact rfl):q:=e▸Qa h
section
variable {ro:Option Nat}{P:Program}{nt:Nat}{st:Qb}{Q:Exit->Qb->Prop}{c:Operand}{x y:Code}{p q q':Prop}{d:Decidable p}
def Kb (ht:q->HW (ro:=ro) P nt x st Q) (hf:q'->HW (ro:=ro) P nt y st Q) (hc:ev st.den c=some (.v (.one (.p (.raw (.bool (@decide p d)))))):=by exact rfl) (e:p=q:=by first|(simp only[ty];done)|(simp only[ty];exact rfl)|exact rfl) (e':(¬p)=q':=by first|(simp only[ty];done)|(simp only[ty];exact rfl)|exact rfl):HW (ro:=ro) P nt (.cond c x y) st Q :=
 aj _ hc (λh=>ht (e▸Ga h)) (λh=>hf (e'▸Qa h))
def Sc (ht:q'->HW (ro:=ro) P nt x st Q) (hf:q->HW (ro:=ro) P nt y st Q) (hc:ev st.den c=some (.v (.one (.p (.raw (.bool (!(@decide p d))))))):=by exact rfl) (e:p=q:=by first|(simp only[ty];done)|(simp only[ty];exact rfl)|exact rfl) (e':(¬p)=q':=by first|(simp only[ty];done)|(simp only[ty];exact rfl)|exact rfl):HW (ro:=ro) P nt (.cond c x y) st Q :=
 aj _ hc (λh=>ht (e'▸Qa (ct h))) (λh=>hf (e▸Ga (cu h)))
def We{b:Bool}(ht:b=true->HW (ro:=ro) P nt x st Q)(hf:b=false->HW (ro:=ro) P nt y st Q)(hc:ev st.den c=some (.v (.one (.p (.raw (.bool b))))):=by exact rfl):HW (ro:=ro) P nt (.cond c x y) st Q:=aj _ hc ht hf
def Xd {b:Bool} (ht:b=false->HW (ro:=ro) P nt x st Q) (hf:b=true->HW (ro:=ro) P nt y st Q) (hc:ev st.den c=some (.v (.one (.p (.raw (.bool (!b)))))):=by exact rfl):HW (ro:=ro) P nt (.cond c x y) st Q :=
 aj _ hc (λh=>ht (ct h)) (λh=>hf (cu h))
section
variable {l:List (Nat×Option HR)}
def ka{x:HR}{r:List (Nat×Option HR)}(d:Nat)(h:sn r l)(e:bo l d=some x:=by exact rfl):sn ((d,some x)::r) l:=⟨⟨x,e,Rg.refl x⟩,h⟩
def kb{x:a8}{r l:List (Nat×Option a8)}(d:Nat)(h:u7 r l)(e:bo l d=some x:=by exact rfl):u7 ((d,some x)::r) l:=⟨⟨x,e,Ic.refl x⟩,h⟩
def kn:sn [] l:=trivial
def km{l:List (Nat×Option a8)}:u7 [] l:=trivial
variable {ko:List (Nat×Option a8)}{kt:List (Nat×Option HR)}{ι:Type}
def aa{body:Code}(hT:sn kt st.t)(hO:u7 ko st.o)(J:ι->Qb)(p:ι->Prop)(μ:ι->Nat)(i0:ι)(h0:p i0)(hs:Ii (J i0) st)(round:∀i,p i->HW (ro:=ro) P nt body ((J i).app ⟨kt,ko⟩) (fD (λi=>(J i).app ⟨kt,ko⟩) p μ i Q)):HW (ro:=ro) P nt (.loop body) st Q:=cS ⟨kt,ko⟩ ⟨hT,hO⟩ J p μ i0 h0 hs round
def c6{x y:Code}(hT:sn kt st.t)(hO:u7 ko st.o)(J:ι->Qb)(p:ι->Prop)(h1:HW (ro:=ro) P nt x st (jG (λi=>(J i).app ⟨kt,ko⟩) p Q))(h2:∀i,p i->HW (ro:=ro) P nt y ((J i).app ⟨kt,ko⟩) Q):HW (ro:=ro) P nt (.seq x y) st Q:=eT ⟨kt,ko⟩ ⟨hT,hO⟩ J p h1 h2
def tt{p:Prop}(h:p:=by repeat (first|exact trivial|refine⟨⟨_,rfl,Ua⟩, ?_⟩|refine⟨⟨_,rfl,(by first|exact Ua|exact Hd Za|exact Jf Qg)⟩, ?_⟩)):p:=h
def uu{p:Prop}(h:p:=by repeat (first|exact trivial|refine⟨⟨_,rfl,Ic.refl _⟩, ?_⟩)):p:=h
def kk{a b:Qb}(h:sn a.t b.t:=by exact tt)(h2:u7 a.o b.o:=by exact uu):Ii a b:=⟨h,h2⟩
def bz{body:Code}(hT:sn kt st.t)(hO:u7 ko st.o)(J:Nat->Qb)(N:Nat)(hs:Ii (J 0) st)(round:∀i,i<=N->HW (ro:=ro) P nt body ((J i).app ⟨kt,ko⟩) (fD (λi=>(J i).app ⟨kt,ko⟩) (λi=>i<=N) (λi=>N-i) i Q)):HW (ro:=ro) P nt (.loop body) st Q:=cS ⟨kt,ko⟩ ⟨hT,hO⟩ J (λi=>i<=N) (λi=>N-i) 0 (Zb _) hs round
def xZ (S:Qb) (Q:Exit->Qb->Prop):Exit->Qb->Prop
 | .normal,st=>Ii S st
 |e,st=>Q e st
def m7 {x y:Code} (hT:sn kt st.t) (hO:u7 ko st.o) (J:Qb) (h1:HW (ro:=ro) P nt x st (xZ (J.app ⟨kt,ko⟩) Q)) (h2:HW (ro:=ro) P nt y (J.app ⟨kt,ko⟩) Q):HW (ro:=ro) P nt (.seq x y) st Q :=
 eT (ι:=Unit) ⟨kt,ko⟩ ⟨hT,hO⟩ (λ_=>J) (λ_=>True) (CQ h1 λe st' h=>by cases e<;>first|exact⟨(),Aa,h⟩|exact h) λ_ _=>h2
def DX(h:HW (ro:=ro) P nt x st Q)(hc:ev st.den c=some (.v (.one (.p (.raw (.bool true))))):=by exact rfl):HW (ro:=ro) P nt (.cond c x y) st Q:=aj _ hc (λ_=>h) (λe=>Bool.noConfusion e)
def EX(h:HW (ro:=ro) P nt y st Q)(hc:ev st.den c=some (.v (.one (.p (.raw (.bool false))))):=by exact rfl):HW (ro:=ro) P nt (.cond c x y) st Q:=aj _ hc (λe=>Bool.noConfusion e) (λ_=>h)
def Db{X:Prop}(h:X)(hQ:Q .ret st=((Exit.ret=.normal\/Exit.ret=.ret)/\X):=by exact rfl):HW (ro:=ro) P nt .ret st Q:=AD (hQ▸⟨.inr rfl,h⟩)
def Be {E:Xc} {rs:List ResultVar} {res:List PC} {p q:Prop} {l:List HC} {vs:List PC} (hc:Sg vs res) (hQ:Q .ret st=((Exit.ret=.normal\/Exit.ret=.ret)/\sA E st rs res):=by exact rfl) (h1:Qm E st.den rs=some (p,l):=by exact rfl) (h2:qt st.den.o l=some (q,vs):=by exact rfl)
 (hp:p:=by(repeat' apply And.intro)<;>first|trivial|exact Re rfl|rfl) (hq:q:=by(repeat' apply And.intro)<;>first|trivial|exact Re rfl|rfl):HW (ro:=ro) P nt .ret st Q:=AD (hQ▸⟨.inr rfl,p,l,q,vs,h1,hp,h2,hq,hc⟩)
def kd{a b:Prop}(h:b)(k:a:=by kernel_rfl):a/\b:=⟨k,h⟩
def Rb{I:ι->Qb}{pp:ι->Prop}{μ:ι->Nat}{k:Nat}(i':ι)(hs:Ii (I i') st)(hp:pp i')(hm:μ i'<k:=by first|omega|(dsimp only;omega)):∃i',pp i'/\μ i'<k/\Ii (I i') st:=⟨i',hp,hm,hs⟩
def Ld{I:ι->Qb}{pp:ι->Prop}{μ:ι->Nat}{k:Nat}(i':ι)(hs:Ii (I i') st)(hp:pp i':=by first|trivial|(show _+1<=_;omega))(hm:μ i'<k:=by first|omega|(dsimp only;omega)):∃i',pp i'/\μ i'<k/\Ii (I i') st:=⟨i',hp,hm,hs⟩
end
end
def Nb{nt:Nat}{f:FuncId}{fn:Func}{body:Code}{args res:List PC}(hf:Ab.funcs[f]? = some fn)(h:HW (ro:=none) Ab nt body ⟨Qt 0 args,[]⟩ λe st=>(e=.normal\/e=.ret)/\sA ig st fn.results.toList res)(hb:fn.body=some body:=by exact rfl)(hn:fn.ntmps=nt:=by exact rfl)(hl:args.length<=nt:=by exact Re rfl):a6 Ab f args (a7 res):=b3d gi hf hb hn hl h
def Eg{nt:Nat}{f:FuncId}{fn:Func}{body:Code}{args:List HC}{o1 o2:List (Nat×a8)}{res:HR}{fx:List Nat}(hf:Ab.funcs[f]? = some fn)(h:HW (ro:=none) Ab nt body ⟨Jr 0 args,Mw o1⟩ λe st=>(e=.normal\/e=.ret)/\kN ig st fn.results.toList res o2)(hb:fn.body=some body:=by exact rfl)(hn:fn.ntmps=nt:=by exact rfl)(hl:args.length<=nt:=by exact Re rfl)(hx:fx.all (Nat.ble 1000)=true:=by exact rfl):dn Ab f args o1 res o2 fx:=bf3 gi hf hb hn hl hx h
def gd{ro:Option Nat}{nt id:Nat}{ops:Array Oper}{st:Qb}{Q:Exit->Qb->Prop}(h:Td Ab ig nt ops (List.range ops.size) st λT sf=>RD ops T=true/\Q .normal sf):HW (ro:=ro) Ab nt (.region id ops true) st Q:=HQ gi EF _ h
section
variable {P:Program}{E:Xc}{nt:Nat}{ops:Array Oper}{i:Nat}{o:Oper}{st:Qb}{L:List Nat}{K:List Tr->Qb->Prop}
def Ed (id:Nat) (wb:Bool) {u:Bl} {gb:Bool} (hT:Td P E nt ops L (st.after o.dst (some u.val) [(u.id,some u.ob)]) λT sf=>K (⟨i,⟨id,wb,true, .tup [],[u.id],if u.new then[id] else[],u.val.ids++u.ob.ids⟩,looks st.den o,d8 st.den o.dst [(u.id,some u.ob)],none⟩::T) sf)
 (hi:ops[i]? = some o:=by exact rfl) (hw:b6 ops st.den o=some gb:=by exact rfl) (hd:dc nt o.dst=true:=by exact rfl) (hq':Ei E st.den.o (ev st.den) id wb o.op=some u:=by exact rfl) (hn:(!u.new||qb id st)=true:=by exact rfl) (hg:gb=true:=by exact rfl)
 (hp:u.pre:=by(try dsimp only)<;>((repeat' apply And.intro)<;>first|trivial|rfl|assumption|omega|(simp only[Qe];omega)|(simp only[ep,bh];omega)|exact Or.inl rfl|exact Or.inr rfl|exact(λ_=>Or.inl rfl)|exact(λ_=>Or.inr (Re rfl))|exact Re rfl|(intro h;cases h;done))):Td P E nt ops (i::L) st K:=Yx id wb hi hw hd hq' hn hg hp hT
def Ke {cl:Call} {f:FuncId} {caps hcs:List HC} {args:List HC} {o1 o2:List (Nat×a8)} {res:HR} {fx:List Nat} {gb:Bool} (hf:goodFn P f) (hfun:dn P f args o1 res o2 fx) (hsub:Xz o1 st.den.o)
 (hT:Td P E nt ops L (st.after o.dst (some res) (Rm o1 o2)) λT sf=>K (⟨i,⟨0,false,true, .tup [],dx o1++dx o2,zS o1 o2 fx,res.ids++Bt o2⟩,looks st.den o,d8 st.den o.dst (Rm o1 o2),none⟩::T) sf)
 (hi:ops[i]? = some o:=by exact rfl) (hw:b6 ops st.den o=some gb:=by exact rfl) (hd:dc nt o.dst=true:=by exact rfl) (ho:o.op=.call cl:=by exact rfl) (hc:wv (ev st.den) cl=some (f,caps):=by exact rfl) (hv:tg (ev st.den) cl.args.toList=some hcs:=by exact rfl) (hco:vz (hcs++caps) args:=by exact vz.refl _) (hB:UF o1 o2 res fx st=true:=by exact rfl) (hg:gb=true:=by exact rfl):Td P E nt ops (i::L) st K:=ke hi hw hd ho hc hv hf hfun hco hsub hB hg hT
end
structure Hq (Q:Prop):Prop where
 v:Q
section
variable {P Q:Prop}
def If(hQ:Q)(h:Hq Q->P:=by intro h;(first|refine qy ?_|refine cn ?_|refine cw ?_|refine gy ?_|refine s9 ?_|refine gd ?_|refine kd ?_|refine DX ?_|refine EX ?_|refine dj ?_|refine AD ?_|refine aF ?_|refine cg ?_);exact h.v):P:=h ⟨hQ⟩
def Cb(hQ:Q)(h:Hq Q->P:=by intro h;(iterate 2 refine If ?_);exact h.v):P:=h ⟨hQ⟩
def Tb(hQ:Q)(h:Hq Q->P:=by intro h;(iterate 3 refine If ?_);exact h.v):P:=h ⟨hQ⟩
def Mc(hQ:Q)(h:Hq Q->P:=by intro h;(iterate 4 refine If ?_);exact h.v):P:=h ⟨hQ⟩
def Eb(hQ:Q)(h:Hq Q->P:=by intro h;(iterate 5 refine If ?_);exact h.v):P:=h ⟨hQ⟩
def Mb(hQ:Q)(h:Hq Q->P:=by intro h;(iterate 6 refine If ?_);exact h.v):P:=h ⟨hQ⟩
def Jb(hQ:Q)(h:Hq Q->P:=by intro h;(iterate 7 refine If ?_);exact h.v):P:=h ⟨hQ⟩
def Wb(hQ:Q)(h:Hq Q->P:=by intro h;(iterate 8 refine If ?_);exact h.v):P:=h ⟨hQ⟩
def Cc(hQ:Q)(h:Hq Q->P:=by intro h;(iterate 9 refine If ?_);exact h.v):P:=h ⟨hQ⟩
def ce(hQ:Q)(h:Hq Q->P:=by intro h;(iterate 10 refine If ?_);exact h.v):P:=h ⟨hQ⟩
def dg(hQ:Q)(h:Hq Q->P:=by intro h;(iterate 11 refine If ?_);exact h.v):P:=h ⟨hQ⟩
def fy(hQ:Q)(h:Hq Q->P:=by intro h;(iterate 12 refine If ?_);exact h.v):P:=h ⟨hQ⟩
def jq(hQ:Q)(h:Hq Q->P:=by intro h;(iterate 13 refine If ?_);exact h.v):P:=h ⟨hQ⟩
def rp(hQ:Q)(h:Hq Q->P:=by intro h;(iterate 14 refine If ?_);exact h.v):P:=h ⟨hQ⟩
def jz(hQ:Q)(h:Hq Q->P:=by intro h;(iterate 15 refine If ?_);exact h.v):P:=h ⟨hQ⟩
def qd(hQ:Q)(h:Hq Q->P:=by intro h;(iterate 16 refine If ?_);exact h.v):P:=h ⟨hQ⟩
def qh(hQ:Q)(h:Hq Q->P:=by intro h;(iterate 17 refine If ?_);exact h.v):P:=h ⟨hQ⟩
def Tz(hQ:Q)(h:Hq Q->P:=by intro h;(iterate 18 refine If ?_);exact h.v):P:=h ⟨hQ⟩
def Sq(hQ:Q)(h:Hq Q->P:=by intro h;(iterate 19 refine If ?_);exact h.v):P:=h ⟨hQ⟩
def oA(hQ:Q)(h:Hq Q->P:=by intro h;(iterate 20 refine If ?_);exact h.v):P:=h ⟨hQ⟩
def Nv(hQ:Q)(h:Hq Q->P:=by intro h;(iterate 21 refine If ?_);exact h.v):P:=h ⟨hQ⟩
def iA(hQ:Q)(h:Hq Q->P:=by intro h;(iterate 22 refine If ?_);exact h.v):P:=h ⟨hQ⟩
def aN(hQ:Q)(h:Hq Q->P:=by intro h;(iterate 23 refine If ?_);exact h.v):P:=h ⟨hQ⟩
def LM(hQ:Q)(h:Hq Q->P:=by intro h;(iterate 24 refine If ?_);exact h.v):P:=h ⟨hQ⟩
def xM(hQ:Q)(h:Hq Q->P:=by intro h;(iterate 26 refine If ?_);exact h.v):P:=h ⟨hQ⟩
def pG(hQ:Q)(h:Hq Q->P:=by intro h;(iterate 29 refine If ?_);exact h.v):P:=h ⟨hQ⟩
def AY(hQ:Q)(h:Hq Q->P:=by intro h;(iterate 30 refine If ?_);exact h.v):P:=h ⟨hQ⟩
def MC(hQ:Q)(h:Hq Q->P:=by intro h;(iterate 32 refine If ?_);exact h.v):P:=h ⟨hQ⟩
end
theorem Tf{P Q:Prop}(hQ:Q)(h:Hq Q->P:=by intro h;(iterate 2 refine If ?_);refine Be ?_;exact h.v):P:=h ⟨hQ⟩
theorem Ef{P Q:Prop}(hQ:Q)(h:Hq Q->P:=by intro h;(iterate 3 refine If ?_);refine Be ?_;exact h.v):P:=h ⟨hQ⟩
theorem Kc{P Q:Prop}(hQ:Q)(h:Hq Q->P:=by intro h;(iterate 4 refine If ?_);refine Be ?_;exact h.v):P:=h ⟨hQ⟩
theorem Dd{P Q:Prop}(hQ:Q)(h:Hq Q->P:=by intro h;(iterate 5 refine If ?_);refine Be ?_;exact h.v):P:=h ⟨hQ⟩
theorem Eh{P Q:Prop}(hQ:Q)(h:Hq Q->P:=by intro h;(iterate 6 refine If ?_);refine Be ?_;exact h.v):P:=h ⟨hQ⟩
theorem Up{P Q:Prop}(hQ:Q)(h:Hq Q->P:=by intro h;(iterate 7 refine If ?_);refine Be ?_;exact h.v):P:=h ⟨hQ⟩
theorem MF{P Q:Prop}(hQ:Q)(h:Hq Q->P:=by intro h;(iterate 8 refine If ?_);refine Be ?_;exact h.v):P:=h ⟨hQ⟩
theorem sX{P Q:Prop}(hQ:Q)(h:Hq Q->P:=by intro h;(iterate 9 refine If ?_);refine Be ?_;exact h.v):P:=h ⟨hQ⟩
end Go.Hx
end
namespace Go.Hx
section
open Go.Proofs Go.Lib Go.RowKit
def F6 (w:World) (o:Obj) {r:Nat} (h:r<w.heap.size):(w.alloc o).heap[r]? = w.heap[r]?:=by
 show(w.heap.push o)[r]? = _;rw[Array.getElem?_push_lt h,Km h]
def akp {P:Program} (w:World) (dT sT ty elem:TypeId) (g o dLen dCap:Nat) (a:Addr) (sLen sCap size:Nat) (cur:Array Value) (t:TypeId) (cs:List Value)
 (hu:P.underlying dT=some (.slice elem)) (hs:(P.info? elem).map (·.size)=some size)
 (hg:w.heap[g]? = some (.cells cur t (0,0))) (hn:cs.length=Nat.min sLen dLen*size)
 (hsrc:∀j v,cs[j]? = some v->w.cell? (a.add j)=some v) (hfit:o+cs.length<=cur.size) (h1:∀v∈cs,v.oneCell'=true) :
 (Builtin.copy_ #[dT,sT] ty #[.slice (some ⟨g,o,none⟩) dLen dCap, .slice (some a) sLen sCap]).run P w =
  .ok (goInt (Nat.min sLen dLen)) (w.setRow g (cur.toList.take o++cs++cur.toList.drop (o+cs.length)).toArray):=by
 have hl:=run_loadCells_list (P:=P) w a cs hsrc;have hst:=run_storeCells_at P g o t cs 0 cur w hg (by simpa using hfit) h1
 cases hq:P.info? elem with
 |none=>simp[hq]at hs
 | some i =>
  have hi:i.size=size:=by simpa [hq]using hs
  simp[Builtin.copy_,run_underlying hu,Builtin.lenOf,Builtin.firstCells,sizeOf,typeInfo,hq,hi,<- hn,hl,hst]
def btv(k:Nat)(xs vs:List Value):List Value:=xs.take k++vs++xs.drop k
structure bsa (w w':World) (T s:Nat) (own v:Value) (n:Nat) (xs:List Value):Prop where
 row:w'.ownsRow 0 T s v (n+1) xs
 bl:Below 0 w w'
 out:∀g,g<w.heap.size->d5 own≠some g->w'.heap[g]? = w.heap[g]?
 at_:∀g,d5 v=some g->w.heap.size<=g\/d5 own=some g
def buk(i:Nat)(F G:Nat->Nat->PV):Nat->Nat->PV:=λk j=>if k<i then F k j else if k=i then G 0 j else F (k-1) j
def fu{id q:Nat}{x ob:a8}(h:lk [(q,x)] id=some ob):id=q/\ob=x:=by
 simp only[lk]at h;by_cases hk:q=id
 .subst hk
  simp at h;exact⟨rfl,h.symm⟩
 have:Nat.beq q id=false:=by
  rw[Ie];exactλhb=>hk (Vi hb)
 rw[this]at h;cases h
structure bu9 (c:Pc) (w w':World) (T s a:Nat) (v:Value) (n:Nat) (ys:List Value):Prop where
 row:w'.ownsRow 0 T s v (n+1) ys
 bl:Below 0 w w'
 out:∀g,g<w.heap.size->¬c.blk a g->w'.heap[g]? = w.heap[g]?
 at_:∀g,d5 v=some g->w.heap.size<=g\/c.blk a g
def bav {imm:Dc} {s m:Nat} {ys:List Value} {H:Nat->Nat->PV} (hs:0<s) (hl:ys.length=m*s) (hr:∀k j,k<m->j<s->∃x,ys[k*s+j]? = some x/\aq imm (H k j) x):∀x∈ys,x.oneCell'=true:=by
 intro x hx;obtain⟨q,hq,rfl⟩:=Fg hx;have hd:q/s<m:=by rw[oC hs];omega
 obtain⟨x,hx,hr⟩:=hr (q/s) (q%s) hd (Gm _ hs);rw[show q/s*s+q%s=q by rw[Nat.mul_comm];exact Nat.div_add_mod q s,Hc hq]at hx;cases hx;exact hr.oneCell
def b2v{P:Program}{f:FuncId}{T s a:Nat}{y:Value}{F:Nat->Nat->PV}(hs:0<s)
 (h:∀(w:World) (ad:Option Addr),Calls P f #[.slice ad 0 0,y] w λe w'=>∃v,e=.returned v/\Below w.heap.size w w'/\(v=.slice ad 0 0\/w'.ownsRow 0 T s v 0 []/\∀g,d5 v=some g->w.heap.size<=g)) :
 dn P f [.one (.p (io (.slice none 0 0))), .one (.p (.raw y))] [] (.v (.one (.ref a 0))) [(a, .arr true s T 0 F)] []:=by
 intro w c us hM hrep
 obtain ⟨ad,rfl⟩:∃ad,us=[.slice ad 0 0,y]:=by
  match us,hrep with
  | [u0,u1],⟨h0,h1,_⟩ =>
   obtain⟨ad,cap,hv,_,_,hc,_⟩:=h0;obtain rfl:cap=0:=hc rfl;exact⟨ad,by rw[hv,show u1=y from h1.1]⟩
 refine(h w ad).mono ?_;rintro e w' ⟨v,rfl,hb,hor⟩;have la:lk [(a,a8.arr true s T 0 F)] a=some (.arr true s T 0 F):=by simp[lk]
 have him:∀q ob,c.imm q=some ob->q<w.heap.size:=λq ob hq=>(Le.1 (hM.imm q ob hq)).1
 have hform:v.oneCell'=true:=by
  rcases hor with rfl|⟨hrow,_⟩
  .rfl
  rcases hrow.2 with⟨hv,_⟩|⟨g,cap,cur,hv,_⟩<;>(subst hv;rfl)
 have hbk:∃bk:Nat->Prop,(∀g,bk g->w.heap.size<=g)/\(bk=fq v/\w'.ownsRow 0 T s v 0 []\/bk=Cg/\aq c.imm (.sl 0 s true F) v):=by
  rcases hor with rfl|⟨hrow,hat⟩
  .exact⟨Cg,λg hg=>hg.elim, .inr ⟨rfl,ad,0,rfl,Yb _,Zb _,λ_=>rfl,λh=>Ea h (Pl 0)⟩⟩
  exact⟨fq v,hat, .inl ⟨rfl,hrow⟩⟩
 obtain⟨bk,hat,hok⟩:=hbk;refine⟨v,{ c with own:=λq=>if q=a then v else c.own q,blk:=λq=>if q=a then bk else c.blk q },rfl,⟨hform,λl hl=>(by cases(fu hl).2),λob s1 e1 n1 ho1 hd=>?_⟩,⟨λid ob hl=>?_,λid id' ob ob' q hl hl' _ _=>by rw[(fu hl).1,(fu hl').1],λq ob hq=>(hb.block q (him q ob hq)).trans (hM.imm q ob hq),λid ob q hl hq=>?_⟩,⟨hb.os,hb.tape,hb.output,hb.size,λk hk=>Ea hk (Ud k),hb.drawn⟩,λq hq _=>⟨hb.block q hq,rfl⟩,λid ob q hl hq=>?_,λid hid=>Ea hid Ec⟩
 .obtain ⟨_,rfl⟩:=fu ho1
  simp only[a8.dim,Bb,Tc]at hd;obtain⟨rfl,rfl,rfl⟩:=hd;exact⟨Yb _,λ_=>by simp⟩
 .obtain ⟨rfl,rfl⟩:=fu hl
  rcases hok with⟨h1,h2⟩|⟨h1,h2⟩
  .exact⟨hs,Zb _, .inl ⟨by simpa using h1,[],by simpa using h2,λi j hi=>by omega⟩⟩
  exact⟨hs,Zb _, .inr ⟨.inr rfl,by simpa using h1,by simpa using h2⟩⟩
 .obtain ⟨rfl,_⟩:=fu hl
  have hq':bk q:=by simpa using hq
  show c.imm q=none
  cases hc:c.imm q with
  |none=>rfl
  |some ob=>have:=him q ob hc;have:=hat q hq';omega
 obtain⟨rfl,_⟩:=fu hl;have hq':bk q:=by simpa using hq
 exact .inl (hat q hq')
def HE(nt:Nat)(st:Qb)(Q:Qb->Prop):Prop:=∀w0 m0 a w,Sf w0 m0 nt st.den a w->∃st':Qb,Q st'/\Sf w0 m0 nt st'.den a w
def zx{nt:Nat}{st:Qb}{Q:Qb->Prop}(h:Q st):HE nt st Q:=λ_ _ _ _ hr=>⟨st,h,hr⟩
end
section
open Go.RowKit
abbrev AS:=BitVec 32
abbrev Hb(s:AS):Int:=(s.toNat:Int)
def Ag(s:AS):PV:=.raw (.int .u32 (Hb s))
def KS{n:Int}(h0:0<=n)(h1:n<4294967296):IntKind.wrap .u32 n=n:=wo (by simp only[Nl,yw,Un];omega)
def WD (s:AS):Hb s<4294967296:=by
 have:=s.isLt;unfold Hb;omega
def OA(s:AS):0<=Hb s:=Sl _
def ul (s:AS):BitVec.ofInt 32 (Hb s)=s:=by
 unfold Hb;rw[BitVec.ofInt_natCast,BitVec.ofNat_toNat,BitVec.setWidth_eq]
def dm {a b:AS}:Hb a=Hb b<->a=b:=by
 unfold Hb;rw[Int.ofNat_inj];exact BitVec.toNat_inj
def DJ(s:AS):IntKind.wrap .u32 (s.toNat:Int)=Hb s:=KS (OA s) (WD s)
def jh (a b:AS):bq .and .u32 (Hb a) (Hb b)=Hb (a&&&b):=by
 show IntKind.wrap .u32 ((BitVec.ofInt 32 (Hb a)&&&BitVec.ofInt 32 (Hb b)).toNat:Int)=_;rw[ul,ul,DJ]
def Dh (a b:AS):bq .or .u32 (Hb a) (Hb b)=Hb (a|||b):=by
 show IntKind.wrap .u32 ((BitVec.ofInt 32 (Hb a)|||BitVec.ofInt 32 (Hb b)).toNat:Int)=_;rw[ul,ul,DJ]
def k8 (a b:AS):bq .andNot .u32 (Hb a) (Hb b)=Hb (a&&&~~~b):=by
 show IntKind.wrap .u32 ((BitVec.ofInt 32 (Hb a)&&&~~~BitVec.ofInt 32 (Hb b)).toNat:Int)=_;rw[ul,ul,DJ]
def yu (a:AS) (n:Nat):(Hb a).fdiv (2^(min n 32))=Hb (a>>>n):=by
 have e:(2:Int)^(min n 32)=((2^(min n 32):Nat):Int):=by rw[Int.natCast_pow];rfl
 rw[e];unfold Hb;rw[Int.fdiv_eq_ediv_of_nonneg _ (Sl _),<- Int.natCast_ediv,BitVec.toNat_ushiftRight,Nat.shiftRight_eq_div_pow];by_cases h:n<=32
 .rw[Gi h]
 rw[Nat.min_eq_right Za];have h1:=a.isLt;have h2:2^32<=2^n:=Gv Za Za;rw[Nat.div_eq_of_lt Za,Nat.div_eq_of_lt (Ln Za h2)]
def Sz (a:AS) (n:Nat):IntKind.wrap .u32 (Hb a*2^(min n 32))=Hb (a<<<n):=by
 have e:Hb a*(2:Int)^(min n 32)=((a.toNat*2^(min n 32):Nat):Int):=by rw[Int.natCast_mul,Int.natCast_pow];rfl
 rw[e]
 have hw:∀m:Nat,IntKind.wrap .u32 (m:Int)=((m%4294967296:Nat):Int):=by
  intro m;simp[IntKind.wrap,IntKind.signed,IntKind.bits]
 rw[hw];unfold Hb;rw[BitVec.toNat_shiftLeft,Nat.shiftLeft_eq];by_cases h:n<=32
 .rw[Gi h]
 rw[Nat.min_eq_right Za];have h1:a.toNat*2^32%2^32=0:=Nat.mul_mod_left _ _
 have h2:a.toNat*2^n%2^32=0:=by
  obtain⟨k,rfl⟩:∃k,n=k+32:=⟨n-32,by omega⟩;rw[Nat.pow_add,<- Nat.mul_assoc];exact Nat.mul_mod_left _ _
 have h1:a.toNat*2^32%4294967296=0:=h1;rw[h1,h2]
end
section
structure Fd where
 lhs:AS
 rhs:AS
instance:Inhabited Fd:=⟨⟨0,0⟩⟩
theorem Fd.eq_iff{a b:Fd}:a=b<->a.lhs=b.lhs/\a.rhs=b.rhs:=by cases a;cases b;simp
instance:DecidableEq Fd:=λa b=>decidable_of_iff _ (Fd.eq_iff (a:=a) (b:=b)).symm
def Fd.c (x:Fd):Nat->PV
 |0=>Ag x.lhs
 |1=>Ag x.rhs
 |_=>.any
def sub(a b:AS):Prop:=a&&&~~~b=0
instance:DecidablePred λp:AS×AS=>sub p.1 p.2:=λp=>inferInstanceAs (Decidable (_=_))
instance {a b:AS}:Decidable (sub a b):=inferInstanceAs (Decidable (_=_))
section
variable {a b:AS}
def ci:sub a b<->∀i,i<32->a.getLsbD i=true->b.getLsbD i=true:=by
 unfold sub;constructor
 .intro h i hi ha
  have:=Da (λx:AS=>x.getLsbD i) h;simp only[Hg,Jl,hi,ha,decide_true,Aj]at this;simpa using this
 intro h;apply Tl;intro i hi;have:=h i hi;simp only[Hg,Jl,hi,decide_true,Aj];cases ha:a.getLsbD i<;>cases hb:b.getLsbD i<;>simp_all
def lz(a:AS):sub a a:=ci.2 λ_ _ h=>h
def mn{c:AS}(h:sub a b)(k:sub b c):sub a c:=ci.2 λi hi ha=>ci.1 k i hi (ci.1 h i hi ha)
def EB:sub a (a|||b):=ci.2 λi hi ha=>by simp[ha]
def YE:sub b (a|||b):=ci.2 λi hi ha=>by simp[ha]
def Cy {c:AS} (h:sub a c) (k:sub b c):sub (a|||b) c:=ci.2 λi hi ha=>by
 rw[Rl,Kj]at ha
 rcases ha with ha|ha
 .exact ci.1 h i hi ha
 exact ci.1 k i hi ha
def j3 (h:sub a b) (k:sub b a):a=b:=by
 apply Tl;intro i hi;have h1:=ci.1 h i hi;have h2:=ci.1 k i hi;cases ha:a.getLsbD i<;>cases hb:b.getLsbD i<;>simp_all
def BP (h:sub a b):a.toNat<=b.toNat:=by
 have e:a|||b=b:=j3 (Cy h (lz b)) YE
 have:a.toNat<=(a|||b).toNat:=by rw[BitVec.toNat_or];exact Nat.left_le_or
 rwa [e]at this
def Dy (h:sub a b) (hne:a≠b):a.toNat<b.toNat:=by
 rcases Po (BP h)with h|h
 .exact h
 exact Ea (Qi h) hne
def bcm:sub a b<->a&&&b=a:=by
 rw[ci];constructor
 .intro h
  apply Tl;intro i hi;have:=h i hi;rw[Hg];cases ha:a.getLsbD i<;>simp_all
 intro h i hi ha;have:=Da (λx:AS=>x.getLsbD i) h;simp only[Hg,ha,Aj]at this;exact this
def it(s:AS)(f:Fd):AS:=if sub f.lhs s then s|||f.rhs else s
def fm(l:List Fd)(s:AS):AS:=l.foldl it s
variable {s:AS}
def nW {f:Fd}:sub s (it s f):=by
 unfold it;split
 .exact EB
 exact lz s
def qo:∀{l:List Fd} {s:AS},sub s (fm l s)
 | [],s=>lz s
 |f::l,s=>mn nW (qo (l:=l) (s:=it s f))
def Jj (l:List Fd):Nat->AS->AS
 |0,s=>s
 |n+1,s=>if fm l s=s then s else Jj l n (fm l s)
def clo(l:List Fd)(s:AS):AS:=Jj l 4294967296 s
variable {l:List Fd}
def NT:∀{n m:Nat} {s:AS},4294967296-s.toNat<=n->4294967296-s.toNat<=m->Jj l n s=Jj l m s
 |0,m,s,hn,hm=>by have:=s.isLt;omega
 |n+1,0,s,hn,hm=>by have:=s.isLt;omega
 | n+1,m+1,s,hn,hm=>by
  unfold Jj;split
  .rfl
  rename_i hne;have:=Dy (qo (l:=l) (s:=s)) (λe=>hne e.symm);exact NT Za Za
def bdo (h:fm l s=s):clo l s=s:=by
 show Jj l (4294967295+1) s=s;unfold Jj;rw[Ba h]
def b5b:clo l (fm l s)=clo l s:=by
 by_cases h:fm l s=s
 .rw[h]
 have e:clo l s=Jj l 4294967295 (fm l s):=by
  show Jj l (4294967295+1) s=_;rw[Jj,Ca h]
 rw[e];have:=Dy (qo (l:=l) (s:=s)) (λe=>h e.symm);exact NT Za Za
def WV:∀{n:Nat} {s:AS},4294967296-s.toNat<=n->fm l (Jj l n s)=Jj l n s
 |0,s,hn=>by have:=s.isLt;omega
 | n+1,s,hn=>by
  unfold Jj;split
  .assumption
  rename_i hne;have:=Dy (qo (l:=l) (s:=s)) (λe=>hne e.symm);exact WV Za
def axa:fm l (clo l s)=clo l s:=WV Za
def cQ:∀{n:Nat} {s:AS},sub s (Jj l n s)
 |0,s=>lz s
 | n+1,s=>by
  unfold Jj;split
  .exact lz s
  exact mn qo cQ
def sD:sub s (clo l s):=cQ
def ut(l:List Fd)(s:AS):Prop:=∀f∈l,sub f.lhs s->sub f.rhs s
def yj:∀{l:List Fd} {s:AS},fm l s=s<->ut l s
 | [],s=>⟨λ_ f hf=>(by cases hf),λ_=>rfl⟩
 | f :: l,s=>by
  constructor
  .intro h
   have h1:it s f=s:=j3 (by have:=qo (l:=l) (s:=it s f);rw[show fm l (it s f)=s from h]at this;exact this) nW
   have h2:fm l s=s:=by
    have:fm l (it s f)=s:=h;rwa [h1]at this
   intro g hg
   rcases Jd.1 hg with rfl|hg
   .intro hl
    rw[it,Ba hl]at h1;rw[<- h1];exact YE
   exact yj.1 h2 g hg
  intro h
  have h1:it s f=s:=by
   unfold it;split
   .rename_i hl
    exact j3 (Cy (lz s) (h f (Yh ..) hl)) EB
   rfl
  show fm l (it s f)=s;rw[h1];exact yj.2 λg hg=>h g (Jh _ hg)
def CV:∀{l:List Fd} {s t:AS},ut l t->sub s t->sub (fm l s) t
 | [],s,t,_,h=>h
 | f :: l,s,t,ht,h=>CV (l:=l) (λg hg=>ht g (Jh _ hg)) (by
  unfold it;split
  .rename_i hl
   exact Cy h (ht f (Yh ..) (mn hl h))
  exact h)
def XQ {t:AS} (ht:ut l t):∀{n:Nat} {s:AS},sub s t->sub (Jj l n s) t
 |0,s,h=>h
 | n+1,s,h=>by
  unfold Jj;split
  .exact h
  exact XQ ht (CV ht h)
def VK{t:AS}(ht:ut l t)(h:sub s t):sub (clo l s) t:=XQ ht h
def NW:ut l (clo l s):=yj.1 axa
end
end
abbrev pI(a:Int):PC:=.one (.raw (.int .i64 a))
abbrev pB(b:Bool):PC:=.one (.raw (.bool b))
abbrev pP(x:PV):PC:=.one x
abbrev pA(s:AS):PC:=.one (.raw (.int .u32 (Hb s)))
abbrev Ub(l:List Fd):PV:=Ff 2 Fd.c l
abbrev Cd(l:List AS):PV:=Ff 1 (λs _=>Ag s) l
abbrev vI(a:Int):HR:=bu (.raw (.int .i64 a))
abbrev vA(s:AS):HR:=bu (.raw (.int .u32 (Hb s)))
def PO {l:List Fd} {s:AS} {i:Nat} (hi:i<l.length):fm (l.take (i+1)) s=it (fm (l.take i) s) (l.getD i default):=by
 unfold fm;rw[List.take_succ,Hc hi,Oi,Oc,Hc hi];rfl
def pk {a b:AS}:bq .andNot .u32 (Hb a) (Hb b)=0<->sub a b:=by
 rw[k8,show(0:Int)=Hb 0 from rfl,dm];exact Oa
def fN {S:AS} {f:Fd} (h:bq .andNot .u32 (Hb f.lhs) (Hb S)=0):bq .or .u32 (Hb S) (Hb f.rhs)=Hb (it S f):=by
 rw[Dh,it,Ba (pk.1 h)]
def QM{S:AS}{f:Fd}(h:¬bq .andNot .u32 (Hb f.lhs) (Hb S)=0):it S f=S:=Ca λe=>h (pk.2 e)
def Ue(n:Int)(f:Fd):Bool:=decide ((f.lhs|||f.rhs)>>>n.toNat=0)
def br(n:Int)(l:List Fd):Int:=if n<0\/16<n then 7 else if 64<l.length then 3 else if l.all (Ue n)=true then 0 else 1
def OE {n:Int} {f:Fd}:(bq .or .u32 (Hb f.lhs) (Hb f.rhs)).fdiv (2^(min n.toNat 32))=0<->Ue n f=true:=by
 rw[Dh,yu,show(0:Int)=Hb 0 from rfl,dm];unfold Ue;rw[Ia]
def ed {k:IntKind} {a b:Int} (h:a=b):Rg (bu (.raw (.int k a))) (bu (.raw (.int k b))):=by
 rw[h];exact Ua
def l4(n:Nat):AS:=(List.range n).foldl (λs i=>s|||((1:AS)<<<i)) 0
def ak(n:Int):AS:=l4 (min n.toNat 32)
def TV (i:Nat):l4 (i+1)=l4 i|||((1:AS)<<<i):=by
 unfold l4;rw[Ak,Oi];rfl
def b14 (i:Nat):bq .or .u32 (Hb (l4 i)) (IntKind.wrap .u32 (1*2^(min i 32)))=Hb (l4 (i+1)):=by
 have e:IntKind.wrap .u32 (1*2^(min i 32))=Hb ((1:AS)<<<i):=Sz 1 i;rw[e,Dh,TV]
section
open Go.Proofs
def OD:goodFn Ab 75:=Ib func75
def cD (a b:AS):a6 Ab 75 [pA a,pA b] (a7 [pB (decide (sub a b))]):=by
 refine Nb (nt:=10) func75 ?_;refine jq ?_;exact Nc rfl rfl rfl (⟨Vb (decide_eq_decide.2 (by rw[jh,dm];exact bcm.symm)),Aa⟩)
def uo:goodFn Ab 104:=Ib func104
def Gb{p:Prop}(h:p:=by assumption):p:=h
def xx(l:List Fd)(s0:AS):a6 Ab 104 [pP (Ub l),pA s0] (a7 [pA (clo l s0)]):=by
 refine Nb (nt:=29) func104 ?_;refine cw ?_;refine cj 0 rfl λhlen=>?_;refine Mc ?_;refine aa (ι:=AS) (ka 0 kn) km (λs=>⟨[(1,some (vA s))],[]⟩) (λs=>clo l s=clo l s0) (λs=>4294967296-s.toNat) (s0) (rfl) kk ?_;rintro s hs;refine rp ?_;refine bz (ka 0 (ka 5 (ka 9 (ka 10 kn)))) km (λi=>⟨[(11,some (vI i)),(1,some (vA (fm (l.take i) s)))],[]⟩) l.length kk ?_;rintro i hi;refine Eb ?_;refine Kb ?_ ?_<;>intro h0
 ·
  refine Jb ?_;refine m9 0 ?_;refine ce ?_;refine Kb ?_ ?_<;>intro h1
  .refine dg ?_;exact Ld (i+1) ⟨⟨zy,⟨_,rfl,(by rw[PO Za];first|(rw[QM Gb];exact Ua)|(simp only[Qe];rw[fN Gb];exact Ua))⟩,tt⟩,Aa⟩
  refine Eb ?_;exact Ld (i+1) ⟨⟨zy,⟨_,rfl,(by rw[PO Za];first|(rw[QM Gb];exact Ua)|(simp only[Qe];rw[fN Gb];exact Ua))⟩,tt⟩,Aa⟩
 obtain rfl:i=l.length:=by omega
 refine Jb ?_;refine Kb ?_ ?_<;>intro h2
 ·
  refine Eb ?_;refine Db ?_
  have e2:fm l s=s:=by
   have:=dm.1 Gb;rwa [Id]at this
  exact f9 rfl rfl (⟨Sb (by rw[Id,e2,<- hs,bdo e2]),Aa⟩)
 refine dj ?_;refine⟨fm l s, ?_, ?_, ?_⟩
 .show clo l (fm l s)=clo l s0
  rw[b5b];exact hs
 .have hne:¬fm l s=s:=λe=>Ea (Da Hb e) (by rw[Id]at *;assumption)
  have:=Dy (qo (l:=l) (s:=s)) (λe=>hne e.symm);have:=(fm l s).isLt;show 4294967296-(fm l s).toNat<4294967296-s.toNat;omega
 exact⟨⟨⟨_,rfl,(by rw[Id];exact Ua)⟩,tt⟩,Aa⟩
def Eu:goodFn Ab 97:=Ib func97
def Fu (n:Int) (l:List Fd):a6 Ab 97 [pI n,pP (Ub l)] (a7 [pI (br n l)]):=by
 refine Nb (nt:=31) func97 ?_;refine cw ?_;refine cj 1 rfl λhlen=>?_;refine Cc ?_;refine af rfl rfl ?_ ?_<;>intro r0
 ·
  have h0:=Bc r0;(iterate 2 refine k9 (Yc r0) ?_);refine Jb ?_
  exact Nc rfl rfl rfl (⟨Sb (by rw[br,Ba Za]),Aa⟩)
 have h0:=Ac r0;(iterate 2 refine qy ?_ (hg:=(Jc r0)));refine Cb ?_;refine aj _ rfl ?_ ?_<;>intro r1
 .have h1:=Bc (ai r0 r1);refine Kc ?_;exact⟨Sb (by rw[br,Ba Za]),Aa⟩
 have h1:=Ac (ai r0 r1);refine Wb ?_;refine Kb ?_ ?_<;>intro h2
 .refine Kc ?_;exact⟨Sb (by rw[br,Ca Za,Ba Za]),Aa⟩
 refine Cc ?_;refine aa (ι:=Nat) (ka 0 (ka 16 (ka 17 kn))) km (λi=>⟨[(18,some (vI i))],[]⟩) (λi=>i<=l.length/\∀j,j<i->Ue n (l.getD j default)=true) (λi=>l.length-i) (0) (⟨Zb _,λj hj=>Ea hj (Ud j)⟩) kk ?_;rintro i ⟨hi,hI⟩;refine Eb ?_;refine Kb ?_ ?_<;>intro h3
 ·
  refine Jb ?_;refine m9 0 ?_;refine jq ?_;refine Sc ?_ ?_<;>intro h4
  .refine Kc ?_;exact⟨Sb (by rw[br,Ca Za,Ca Za,Ca (λe=>Ea (Tt (l:=l) (p:=Ue n) (i:=i) Za (by rw[Ie];exactλe=>Ea (OE.2 e) Gb)) (by rw[e];decide))]),Aa⟩
  refine Eb ?_;refine Rb (i+1) kk ?_;refine⟨by omega,λj hj=>?_⟩
  rcases Po (Iq hj)with h|h
  .exact hI j h
  subst h;exact OE.1 Gb
 obtain rfl:i=l.length:=by omega
 refine Dd ?_;exact⟨Sb (by rw[br,Ca Za,Ca Za,Ba (Zq λj hj=>hI j hj)]),Aa⟩
def vq:goodFn Ab 24:=Ib func24
def ve (n:Int):a6 Ab 24 [pI n] (a7 [pA (ak n)]):=by
 refine Nb (nt:=19) func24 ?_;refine rp ?_;refine bz (ka 0 kn) km (λi=>⟨[(4,some (vI i)),(3,some (vA (l4 i)))],[]⟩) (min n.toNat 32) kk ?_;rintro i hi;refine Jb ?_;refine af rfl rfl ?_ ?_<;>intro r0
 ·
  have h0:=Bc r0;(iterate 2 refine qy ?_ (hg:=(Lc r0)));refine Cb ?_;refine aj _ rfl ?_ ?_<;>intro r1
  .have h1:=Bc (bp r0 r1);refine jz ?_;exact Ld (i+1) ⟨⟨zy,⟨_,rfl,(by simp only[Qe];exact ed (b14 i))⟩,tt⟩,Aa⟩
  have h1:=Ac (bp r0 r1);obtain rfl:i=min n.toNat 32:=by omega
  refine Eh ?_;exact Ta
 have h0:=Ac r0;obtain rfl:i=min n.toNat 32:=by omega
 (iterate 2 refine k9 (Vd r0) ?_);refine Cc ?_
 exact Nc rfl rfl rfl Ta
end
def wu (i k:Nat) (hk:k<32):((1:AS)<<<i).getLsbD k=decide (k=i):=by
 rw[BitVec.getLsbD_shiftLeft];by_cases h:k<i
 .simp[h,hk];omega
 by_cases e:k=i
 .subst e;simp[hk]
 have:0<k-i:=by omega
 simp[hk,h,e,BitVec.getLsbD_one];omega
def oe:∀(n k:Nat),k<32->(l4 n).getLsbD k=decide (k<n)
 |0,k,hk=>by simp[l4]
 | n+1,k,hk=>by
  rw[TV,Rl,oe n k hk,wu n k hk];by_cases h:k<n
  .simp[h];omega
  by_cases e:k=n
  .simp[e]
  simp[h,e];omega
def ZM{s:AS}{n:Nat}:s>>>n=0<->∀k,k<32->n<=k->s.getLsbD k=false:=by
 constructor
 .intro h k hk hn
  have:=Da (λx:AS=>x.getLsbD (k-n)) h;simp only[Jv]at this;rw[show n+(k-n)=k by omega]at this;simpa using this
 intro h;apply Tl;intro i hi;rw[Jv];by_cases hk:n+i<32
 .rw[h (n+i) hk Za];simp
 rw[BitVec.getLsbD_of_ge _ _ Za];simp
def zf{s:AS}{n:Nat}(hn:n<=32):sub s (l4 n)<->s>>>n=0:=by
 rw[ci,ZM];constructor
 .intro h k hk hle
  rw[Ie];intro e;have:=h k hk e;rw[oe n k hk,Ia]at this;omega
 intro h k hk e;rw[oe n k hk,Ia];apply Nat.lt_of_not_le;intro hle;rw[h k hk hle]at e;cases e
def pw {n:Int} (hn:0<=n) (h16:n<=16) {f:Fd}:Ue n f=true<->sub f.lhs (ak n)/\sub f.rhs (ak n):=by
 unfold Ue ak;rw[Ia,Gi Za,<- zf Za];exact⟨λh=>⟨mn EB h,mn YE h⟩,λh=>Cy h.1 h.2⟩
abbrev Fd.pc(f:Fd):PC:=.agg [f.c 0,f.c 1]
def imp(l:List Fd)(f:Fd):Bool:=decide (sub f.rhs (clo l f.lhs))
section
open Go.Proofs
def bfa(n:Int)(l:List Fd):a6 Ab 171 [pI n,pP (Ub l)] (a7 [pI (br n l)]):=by
 refine Nb (nt:=42) func171 ?_;refine cw ?_;refine cj 1 rfl λhlen=>?_;refine Cc ?_;refine af rfl rfl ?_ ?_<;>intro r0
 ·
  have h0:=Bc r0;(iterate 2 refine k9 (Yc r0) ?_);refine Jb ?_
  exact Nc rfl rfl rfl (⟨Sb (by rw[br,Ba Za]),Aa⟩)
 have h0:=Ac r0;(iterate 2 refine qy ?_ (hg:=(Jc r0)));refine Cb ?_;refine aj _ rfl ?_ ?_<;>intro r1
 .have h1:=Bc (ai r0 r1);refine Kc ?_;exact⟨Sb (by rw[br,Ba Za]),Aa⟩
 have h1:=Ac (ai r0 r1);refine Wb ?_;refine Kb ?_ ?_<;>intro h2
 .refine Kc ?_;exact⟨Sb (by rw[br,Ca Za,Ba Za]),Aa⟩
 refine Mc ?_;refine Fb vq (ve n) ?_;refine Wb ?_;refine aa (ι:=Nat) (ka 1 (ka 5 kn)) km (λi=>⟨[(6,some (vI i))],[]⟩) (λi=>i<=l.length/\∀j,j<i->Ue n (l.getD j default)=true) (λi=>l.length-i) (0) (⟨Zb _,λj hj=>Ea hj (Ud j)⟩) kk ?_;rintro i ⟨hi,hI⟩;refine Wb ?_;refine Kb ?_ ?_<;>intro h3
 ·
  refine dg ?_;refine Fb OD (cD _ _) ?_;refine Cb ?_;refine af rfl rfl ?_ ?_<;>intro r4
  ·
   have h4:=ct r4;(iterate 8 refine k9 (Yc r4) ?_);refine Jb ?_
   exact Nc rfl rfl rfl (⟨Sb (by rw[br,Ca Za,Ca Za,Ca (λe=>Ea (Tt (l:=l) (p:=Ue n) (i:=i) Za (by rw[Ie];intro e2;rw[pw Za Za]at e2;simp_all)) (by rw[e];decide))]),Aa⟩)
  have h4:=cu r4;(iterate 6 refine qy ?_ (hg:=(Jc r4)));refine Fb OD (cD _ _) ?_ (hg:=(Jc r4));refine qy ?_ (hg:=(Jc r4));refine Cb ?_;refine aj _ rfl ?_ ?_<;>intro r5
  .have h5:=ct (ai r4 r5);refine Kc ?_;exact⟨Sb (by rw[br,Ca Za,Ca Za,Ca (λe=>Ea (Tt (l:=l) (p:=Ue n) (i:=i) Za (by rw[Ie];intro e2;rw[pw Za Za]at e2;simp_all)) (by rw[e];decide))]),Aa⟩
  have h5:=cu (ai r4 r5);refine Mb ?_;refine Rb (i+1) kk ?_;refine⟨by omega,λj hj=>?_⟩
  rcases Po (Iq hj)with h|h
  .exact hI j h
  subst h;exact(pw Za Za).2 Qg
 obtain rfl:i=l.length:=by omega
 refine Dd ?_;exact⟨Sb (by rw[br,Ca Za,Ca Za,Ba (Zq λj hj=>hI j hj)]),Aa⟩
def nN (l:List Fd) (x:Fd):a6 Ab 246 [pP (Ub l),x.pc] (a7 [pB (imp l x)]):=by
 refine Nb (nt:=13) func246 ?_;refine Rc ?_;refine m9 0 ?_;refine Cc ?_;refine Fb uo (xx l x.lhs) ?_;refine Dd ?_;exact⟨Vb (decide_eq_decide.2 pk),Aa⟩
end
section
variable {α:Type}
def au [Inhabited α] {l:List α} {q:Nat} (hq:q<l.length):l.take (q+1)=l.take q++[l.getD q default]:=by
 rw[List.take_add_one,Hc hq];simp[List.getD,hq]
def ayx [Inhabited α] {l:List α} {q:Nat} (h0:0<q) (hq:q<=l.length):(l.take q).getLast? = some (l.getD (q-1) default):=by
 obtain⟨k,rfl⟩:∃k,q=k+1:=⟨q-1,by omega⟩;rw[au Za,List.getLast?_append];simp
section
variable [DecidableEq α]
def lw:Option α->List α->List α
 |_,[]=>[]
 |p,x::l=>if p=some x then lw p l else x::lw (some x) l
def iz(l:List α):List α:=lw none l
def Dx(p:Option α)(l:List α):Option α:=match l.getLast? with|some y=>some y|none=>p
def ari (p:Option α) (y:α) (l:List α):Dx p (y::l)=Dx (some y) l:=by
 unfold Dx
 cases l with
 |nil=>rfl
 |cons z l=>simp[List.getLast?_cons]
def LK(x:α):∀(l:List α) (p:Option α),lw p (l++[x])=lw p l++(if Dx p l=some x then[] else[x])
 | [],p=>by
  unfold Dx;simp only[Kn,lw,List.getLast?_nil];by_cases h:p=some x<;>simp[h]
 | y :: l,p=>by
  rw[ari];simp only[Ql,lw];split
  .rename_i h
   rw[LK x l p,h]
  rw[LK x l (some y)];rfl
def l5 [Inhabited α] {l:List α} {q:Nat} (h0:0<q) (hq:q<l.length):iz (l.take (q+1))=iz (l.take q)++(if l.getD (q-1) default=l.getD q default then[] else[l.getD q default]):=by
 unfold iz;rw[au hq,LK];unfold Dx;rw[ayx h0 Za];simp
def uc [Inhabited α] {l:List α}:∀{k:Nat},k<=l.length->(∀j,0<j->j<k->¬l.getD j default=l.getD (j-1) default)->iz (l.take k)=l.take k
 |0,_,_=>rfl
 | 1,hk,_=>by
  rw[au Za];simp[iz,lw]
 | k+2,hk,h=>by
  rw[l5 Za Za,uc Za (λj h1 h2=>h j h1 Za),Ca (λe=>h (k+1) Za Za e.symm),<- au Za]
def EJ:∀(l:List α) (p:Option α),∀x∈lw p l,x∈l
 | [],_,x,h=>by simp[lw]at h
 | y::l,p,x,h=>by
  simp only[lw]at h;split at h
  .exact Jh _ (EJ l p x h)
  rcases Jd.1 h with rfl|h
  .exact Yh
  exact Jh _ (EJ l _ x h)
def OJ:∀(l:List α) (p:Option α),∀x∈l,p=some x\/x∈lw p l
 | y :: l,p,x,h=>by
  simp only[lw];split
  .rename_i hp
   rcases Jd.1 h with rfl|h
   .exact .inl hp
   exact OJ l p x h
  rcases Jd.1 h with rfl|h
  .exact .inr Yh
  rcases OJ l (some y) x h with h|h
  .simp only [Bb]at h
   subst h;exact .inr Yh
  exact .inr (Jh _ h)
def sS {l:List α} {x:α}:x∈iz l<->x∈l:=⟨EJ l none x,λh=>by
 rcases OJ l none x h with h|h
 .cases h
 exact h⟩
end
section
variable [Inhabited α]
section
variable {l:List α}
def j2{p:Nat}{v:α}(hp:p<l.length):(l.set p v).getD p default=v:=by simp[List.getD,hp]
def Gc {p j:Nat} {v:α} (h:j≠p):(l.set p v).getD j default=l.getD j default:=by
 simp only[List.getD,List.getElem?_set_ne (Ne.symm h)]
variable {c:α->Nat->PV}
def QI{wr wr':Bool}{n p k:Nat}{e:TypeId}{v:α}{x:PV}(hw:wr'=true->wr=true)(hn:n=l.length)(hp:k=p)(hk:p<l.length)(hx:x=c v 0):
 Ic (.arr wr 1 e n (er (lf c l) k 0 [x])) (.arr wr' 1 e n (lf c (l.set p v))):=by
 subst hp hx hn;refine⟨hw,rfl,rfl,rfl,λi j hi hj=>Va ?_⟩;obtain rfl:j=0:=by omega
 unfold er lf;by_cases h:i=k
 .subst h
  rw[Ba ⟨rfl,by omega,by simp⟩,j2 hk];rfl
 rw[Ca Za,Gc h]
def uy {wr wr':Bool} {n p k q d:Nat} {e:TypeId} {l':List α} (hw:wr'=true->wr=true) (hn:n=l.length) (hp:k=p) (hk:p<l.length) (hd:d=q):
 Ic (.arr wr 1 e n (er (lf c l) k 0 [lf c l' d 0])) (.arr wr' 1 e n (lf c (l.set p (l'.getD q default)))):=QI hw hn hp hk (by rw[hd];rfl)
def PI {n m a:Nat} {cl:Bool} {l':List α} {z:List Value} {p:Option Int} {h:Option Int} (hn:ep (bh n h) p=l'.length) (hp:p=none) (ha:l'.length<=a) (hl:l'=l.take l'.length):
 Fc (.sl (ep (bh n h) p) 1 cl (tf (tl (lf c l) a m z) p)) (Ff 1 c l'):=by
 subst hp;refine Wa hn.symm (.inl rfl) (λh=>by cases h) λi j hi hj=>Va ?_;rw[hn]at hi;show tl (lf c l) a m z i j=lf c l' i j;unfold tl;rw[Ca Za];simp only[lf,List.getD];have e:l'[i]? = l[i]?:=by rw[hl,Ih,Ba hi]
 rw[e]
end
end
abbrev sC:AS->Nat->PV:=λs _=>Ag s
structure Pk (l:List AS) (k p q:Nat) (m:List AS):Prop where
 len:m.length=l.length
 kq:k<q
 pq:p<q
 ql:q<=l.length
 pre:m.take p=iz (l.take q)
 high:∀j,q-1<=j->m.getD j default=l.getD j default
section
variable {k:Nat}{l:List AS}
theorem Pk.start (h1:1<=k) (hk:k<l.length) (h:∀j,0<j->j<k->¬l.getD j default=l.getD (j-1) default) (hd:l.getD k default=l.getD (k-1) default):Pk l k k (k+1) l :=
 ⟨rfl,by omega,by omega,by omega,by rw[l5 Za hk,Ba hd.symm,Mg,uc Za h],λ_ _=>rfl⟩
theorem Pk.skip {p q:Nat} {m:List AS} (h:Pk l k p q m) (hq:q<l.length) (he:m.getD q default=m.getD (q-1) default):Pk l k p (q+1) m:=by
 have hk:=h.kq;refine⟨h.len,by omega,by have:=h.pq;omega,hq, ?_,λj hj=>h.high j Za⟩;rw[h.high q Za,h.high (q-1) Za]at he;rw[l5 Za hq,Ba he.symm,Mg,h.pre]
theorem Pk.keep {p q:Nat} {m:List AS} (h:Pk l k p q m) (hq:q<l.length) (he:¬m.getD q default=m.getD (q-1) default):Pk l k (p+1) (q+1) (m.set p (m.getD q default)):=by
 have hk:=h.kq;have hp:=h.pq;have hl:=h.len;refine⟨by simp[hl],by omega,by omega,hq, ?_,λj hj=>by rw[Gc Za];exact h.high j Za⟩;have e:=h.high q Za;rw[e,h.high (q-1) Za]at he;rw[l5 Za hq,Ca (λe=>he e.symm),<- h.pre,au (by simp[hl];omega),j2 Za,e];congr 1;rw[List.take_set,qC Uh]
def zp{a b a' b':Nat}(h:Hb (l.getD a' default)=Hb (l.getD b' default))(ha:a'=a)(hb:b'=b):l.getD a default=l.getD b default:=by subst ha hb;exact dm.1 h
def Ly{a b a' b':Nat}(h:¬Hb (l.getD a' default)=Hb (l.getD b' default))(ha:a'=a)(hb:b'=b):¬l.getD a default=l.getD b default:=by subst ha hb;exactλe=>h (Da Hb e)
def eR (hk:l.length<=k) (h:∀j,0<j->j<k->¬l.getD j default=l.getD (j-1) default):Fc (.sl l.length 1 false (lf sC l)) (Cd (iz l)):=by
 have:=uc (Yb l.length) λj h1 h2=>h j h1 Za;rw[Id]at this;rw[this];exact Ra
def bap {m:List AS} {p q n a d:Nat} {cl:Bool} {z:List Value} (hC:Pk l k p q m) (hq:¬q<l.length) (ha:p<=a):Fc (.sl (ep (bh n (some (p:Int))) none) 1 cl (tf (tl (lf sC m) a d z) none)) (Cd (iz l)):=by
 have e:=hC.pre;have h1:=hC.ql;have h2:=hC.len;have h3:=hC.pq;rw[show q=l.length by omega,Id]at e;have el:(iz l).length=p:=by rw[<- e];simp;omega
 exact PI (by rw[el];rfl) rfl Za (by rw[el,e])
end
end
section
open Go.Proofs
section
variable {p:Prop}
def Uf(h:p:=by(repeat' apply And.intro)<;>first|trivial|exact Re rfl):p:=h
def Lh(h:p:=by first|rfl|(dsimp only;omega)):p:=h
def Yj(h:p:=by first|rfl|(dsimp only;omega)):p:=h
def Vh(h:p:=by simp only[bh]; omega):p:=h
def Wj(h:p:=by simp only[bh];omega):p:=h
def b7d(l:List AS):dn Ab 210 [.one (.ref 900 l.length)] [(900, .arr true 1 48 l.length (lf sC l))] (.v (.one (.p (Cd (iz l))))) [] []:=by
 refine Eg (nt:=61) func210 ?_;refine cw ?_;refine Xw 900 rfl λhlen=>?_;refine ce ?_;refine Kb ?_ ?_<;>intro h0
 .refine Eb ?_;refine b5 2 rfl rfl rfl ?_;refine Db ?_;exact⟨_,_,rfl,Uf,eR (k:=l.length) (Yb _) (λj h1 h2=>by omega),Aa⟩
 refine Jb ?_;refine aa (ι:=Nat) (ka 0 kn) (kb 900 km) (λk=>⟨[(3,some (vI k))],[]⟩) (λk=>1<=k/\k<=l.length/\∀j,0<j->j<k->¬l.getD j default=l.getD (j-1) default) (λk=>l.length-k) (1) (⟨Yb _,by omega,λj h1 h2=>by omega⟩) kk ?_;rintro k ⟨hk1,hk,hI⟩;refine Wb ?_;refine Kb ?_ ?_<;>intro h1
 ·
  refine qh ?_;refine Kb ?_ ?_<;>intro h2
  ·
   refine jq ?_;refine aa (ι:=Nat×Nat×List AS) (ka 0 (ka 4 kn)) km (λx=>⟨[(3,some (vI x.1)),(5,some (vI ((x.2.1:Int)-k)))],[(900,some (.arr true 1 48 l.length (lf sC x.2.2)))]⟩) (λx=>Pk l k x.1 x.2.1 x.2.2) (λx=>l.length-x.2.1) ((k,k+1,l)) (Pk.start hk1 Za hI (zp Gb rfl Za)) ⟨⟨zy,⟨_,rfl,(Hd Lh)⟩,Aa⟩,uu⟩ ?_;rintro⟨p,q,m⟩ hC;have hC0:=hC;obtain⟨hml,hkq,hpq,hql,_,_⟩:=hC0;dsimp only at hC hml hkq hpq hql;refine Wb ?_;refine Kb ?_ ?_<;>intro h3
   ·
    simp only[ep,bh,Qe]at h3;refine qh ?_;refine Sc ?_ ?_<;>intro h4
    ·
     refine Nv ?_
     first | (refine Rb (p+1, q+1, m.set p (m.getD q default)) ⟨⟨⟨_, rfl, (Hd Yj)⟩, ⟨_, rfl, (Hd Yj)⟩, tt⟩, ⟨⟨_, rfl, (uy id hml.symm Za (by dsimp only; omega) Vh)⟩, trivial⟩⟩ ?_; exact hC.keep Za (Ly Gb Vh Vh))
           |(refine Rb (p,q+1,m) ⟨⟨⟨_,rfl,(Hd Lh)⟩,⟨_,rfl,(Hd Lh)⟩,tt⟩,uu⟩ ?_;exact hC.skip Za (zp Gb Wj Wj))
    refine Mb ?_
    first | (refine Rb (p+1, q+1, m.set p (m.getD q default)) ⟨⟨⟨_, rfl, (Hd Yj)⟩, ⟨_, rfl, (Hd Yj)⟩, tt⟩, ⟨⟨_, rfl, (uy id hml.symm Za (by dsimp only; omega) Vh)⟩, trivial⟩⟩ ?_; exact hC.keep Za (Ly Gb Vh Vh))
          |(refine Rb (p,q+1,m) ⟨⟨⟨_,rfl,(Hd Lh)⟩,⟨_,rfl,(Hd Lh)⟩,tt⟩,uu⟩ ?_;exact hC.skip Za (zp Gb Wj Wj))
   simp only[ep,bh,Qe]at h3;refine Mb ?_;refine Ed 0 true ?_;refine Eb ?_;refine JC rfl rfl rfl rfl rfl ?_;refine Cb ?_;refine Db ?_;exact⟨_,_,rfl,Uf,bap hC Za (by simp[bh]),Aa⟩
  refine Mb ?_;refine Rb (k+1) kk ?_;refine⟨by omega,by show k+1<=_;omega,λj h1 h2=>?_⟩
  rcases Po (Iq h2)with h|h
  .exact hI j h1 h
  subst h;exact Ly Gb rfl Za
 refine Mb ?_;refine b5 2 rfl rfl rfl ?_;refine Db ?_;exact⟨_,_,rfl,Uf,eR (k:=k) Za hI,Aa⟩
end
end
section
section
variable {α:Type}[Inhabited α]{p:α->Bool}{l:List α}
def bU(h:Ee p l=-1):∀j,j<l.length->p (l.getD j default)=false:=λj hj=>by
 cases hc:p (l.getD j default) with
 |false=>rfl
 | true =>
  exfalso;have hx:∃x∈l,p x=true:=⟨l[j],De hj,by simpa [List.getD,hj]using hc⟩;unfold Ee at h
  cases hf:l.findIdx? p with
  | none =>
   rw[uC]at hf;obtain⟨x,hx,hp⟩:=hx;rw[hf x hx]at hp;cases hp
  |some i=>rw[hf]at h;simp only at h;omega
def KJ (h:¬Ee p l=-1):∃i:Nat,Ee p l=i/\i<l.length/\p (l.getD i default)=true/\∀j,j<i->p (l.getD j default)=false:=by
 unfold Ee at h ⊢
 cases hf:l.findIdx? p with
 |none=>rw[hf]at h;exact Ea rfl h
 | some i =>
  obtain⟨h1,h2,h3⟩:=Kv.1 hf;refine⟨i,rfl,h1,by simpa [List.getD,h1]using h2,λj hj=>?_⟩;have:=h3 j hj;simp only[List.getD,Hc (Nat.lt_trans hj h1),Xh];simpa using this
def w4:(decide (0<=Ee p l))=l.any p:=by
 unfold Ee
 cases hf:l.findIdx? p with
 | none =>
  rw[uC]at hf
  have:l.any p=false:=by
   rw[Dk];intro x hx;rw[hf x hx];exact Iz
  rw[this];rfl
 | some i =>
  obtain⟨h1,h2,_⟩:=Kv.1 hf;have:l.any p=true:=Yf.2 ⟨l[i],De h1,h2⟩;rw[this];exact Fa (Sl i)
def pL:∀{k:Nat},k<=l.length->(∀j,j<k->p (l.getD j default)=false)->(l.take k).filter (λx=>!p x)=l.take k
 |0,_,_=>by simp
 |k+1,hk,h=>by rw[au Za,Ek,pL Za λj hj=>h j Za];simp only[Bk,h k Za,Ls,Ma,Jn]
structure Ym (p:α->Bool) (l:List α) (k q:Nat) (m:List α):Prop where
 len:m.length=l.length
 kq:k<q
 ql:q<=l.length
 pre:m.take k=(l.take q).filter λx=>!p x
 high:∀j,q<=j->m.getD j default=l.getD j default
theorem Ym.start {k:Nat} (hk:k<l.length) (h1:p (l.getD k default)=true) (h:∀j,j<k->p (l.getD j default)=false):Ym p l k (k+1) l :=
 ⟨rfl,by omega,hk,by rw[au hk,Ek,pL Za h];simp only[Bk,h1,Ks,Jn,Nj,Na,Mg],λ_ _=>rfl⟩
theorem Ym.skip {k q:Nat} {m:List α} (h:Ym p l k q m) (hq:q<l.length) (hp:p (m.getD q default)=true):Ym p l k (q+1) m:=by
 rw[h.high q (Yb _)]at hp;exact⟨h.len,by have:=h.kq;omega,hq,by rw[au hq,Ek,<- h.pre];simp only[Bk,hp,Ks,Jn,Nj,Na,Mg],λj hj=>h.high j Za⟩
theorem Ym.keep {k q:Nat} {m:List α} (h:Ym p l k q m) (hq:q<l.length) (hp:p (m.getD q default)=false):Ym p l (k+1) (q+1) (m.set k (m.getD q default)):=by
 have e:=h.high q (Yb _);rw[e]at hp ⊢;have hk:=h.kq;have hl:=h.len;refine⟨by simp[hl],by omega,hq, ?_,λj hj=>by rw[Gc Za];exact h.high j Za⟩;rw[au (by simp[hl];omega),j2 Za,au hq,Ek,<- h.pre];simp only[Bk,hp,Ls,Ma,Jn];congr 1;rw[List.take_set,qC Uh]
end
section
variable {p:AS->Bool}{l:List AS}
def bay (h:∀j,j<l.length->p (l.getD j default)=false):Fc (.sl l.length 1 false (lf sC l)) (Cd (l.filter λx=>!p x)):=by
 have:=pL (Yb l.length) h;rw[Id]at this;rw[this];exact Ra
def ber {m:List AS} {k q n a d:Nat} {cl:Bool} {z:List Value} (hC:Ym p l k q m) (hq:¬q<l.length) (ha:k<=a):Fc (.sl (ep (bh n (some (k:Int))) none) 1 cl (tf (tl (lf sC m) a d z) none)) (Cd (l.filter λx=>!p x)):=by
 have e:=hC.pre;have h1:=hC.ql;have h2:=hC.len;have h3:=hC.kq;rw[show q=l.length by omega,Id]at e;have el:(l.filter λx=>!p x).length=k:=by rw[<- e];simp;omega
 exact PI (by rw[el];rfl) rfl Za (by rw[el,e])
end
def SH{a b:AS}:decide (Hb a=Hb b)=decide (a=b):=decide_eq_decide.2 dm
instance:DecidableEq Fd:=λa b=>decidable_of_iff (a.lhs=b.lhs/\a.rhs=b.rhs) Fd.eq_iff.symm
end
section
open Go.Proofs
def mD:goodFn Ab 9:=Ib func9
def xE(n:Nat)(c:Bool)(f:Nat->Nat->PV)(hn:n<=35184372088832) :
 dn Ab 9 [.one (.p (.sl n 1 c f))] [] (.v (.one (.ref 0 n))) [(0, .arr true 1 48 n f)] []:=by
 refine Eg (nt:=8) func9 ?_;refine Rc ?_;refine db true rfl rfl rfl rfl rfl trivial ?_;refine cn ?_;refine iB (ι:=Bool) (λc=>⟨[(0,some (bu (.sl n 1 c f)))],[]⟩) (λ_=>True) ?_ λc _=>?_
 .rcases Mj n with hz|h0
  .subst hz
   refine Qf 0 rfl λad cap hcap=>?_;refine Rc ?_;(iterate 2 refine db true rfl rfl rfl rfl rfl trivial ?_);refine cn ?_;refine aj ad.isNone rfl ?_ ?_<;>intro hc
   .refine Rc ?_
    refine db true rfl rfl rfl rfl rfl trivial ?_;refine cn ?_;refine d9 2 0 true 1 48 f Zc rfl (Wa rfl (.inr rfl) (λh=>h) λi j hi _=>Ea hi (Ud i)) (.inr rfl) rfl ?_;refine Db ?_;exact⟨_,_,rfl,Aa,Ua,uu⟩
   refine dj ?_;exact⟨false,Aa,⟨⟨_,rfl,Fc.raw_sl hcap⟩,Aa⟩,Aa⟩
  refine Rc ?_;refine db true rfl rfl rfl rfl rfl trivial ?_;refine db true rfl rfl rfl rfl rfl h0 ?_;refine cn ?_;refine aj false rfl (λhc=>by cases hc) (λhc=>?_);refine dj ?_;exact⟨c,Aa,tt,Aa⟩
 refine Rc ?_;refine zw 0 rfl rfl rfl rfl rfl rfl trivial ?_;refine db true rfl rfl rfl rfl rfl trivial ?_;refine Yx 0 true rfl rfl rfl rfl rfl rfl ⟨Aa,rfl,rfl,rfl, .inl rfl,by show 0+n<=9223372036854775807;omega,by show(0+n)*4<=140737488355328;omega,λ_=>.inl rfl⟩ ?_;refine db true rfl rfl rfl rfl rfl trivial ?_;refine cn ?_;refine Db ?_;refine⟨_,_,rfl,Aa,Xa (by show HR.v (.one (.ref 0 (0+n)))=_;rw[Oe]),⟨⟨_,rfl, ?_⟩,Aa⟩⟩;exact⟨λh=>h,rfl,rfl,(Oe n).symm,λi j _ _=>Va (by simp[ek])⟩
def b65 (n:Nat) (c:Bool) (f:Nat->Nat->PV) (hn:n<=35184372088832):a6 Ab 9 [.one (.sl n 1 c f)] (.v (.one (.sl n 1 false f))) :=
 dn.pure (args:=[.one (.sl n 1 c f)]) (l:=[.one (.ref 0 n)]) (xE n c f hn) rfl ⟨rfl,Aa⟩
def ZZ(l:List Fd)(g k:Nat)(caps:Nat->PV)(V:Fd->Bool)(hg:goodFn Ab g)(hV:∀x,a6 Ab g (x.pc::gu caps k 0) (a7 [pB (V x)])):a6 Ab 226 [pP (Ub l),pP (.fn g k caps)] (a7 [pI (Ee V l)]):=by
 refine Nb (nt:=19) func226 ?_;refine cw ?_;refine cj 0 rfl λhn=>?_;refine Tb ?_;refine c6 (ι:=Unit) kn km (λ_i=>⟨[],[]⟩) (λ_i=>Ee V l=-1) ?_ ?_
 ·
  refine Jb ?_;refine aa (ι:=Nat) (ka 0 (ka 1 (ka 7 kn))) km (λi=>⟨[(8,some (vI i))],[]⟩) (λi=>i<=l.length/\(∀j,j<i->V (l.getD j default)=false)) (λi=>l.length-i) (0) (⟨Zb _,aw⟩) kk ?_;rintro i ⟨hi,hI⟩;refine Eb ?_;refine Kb ?_ ?_<;>intro h0
  ·
   refine jz ?_;refine rc rfl rfl rfl rfl rfl rfl hg (hV (l.getD i default)) Ta rfl rfl ?_;refine cn ?_;refine We ?_ ?_<;>intro h1
   .refine Dd ?_;exact⟨Sb (oi (i:=i) Za hI h1).symm,Aa⟩
   refine Eb ?_;refine Rb (i+1) kk ?_;exact⟨by show i+1<=_;omega,al hI (h1)⟩
  refine cg ?_;refine⟨(), ?_, ?_⟩
  .exact p8 λj hj=>hI j Za
  exact⟨Aa,Aa⟩
 rintro _ hj;refine Kc ?_;exact⟨Sb hj.symm,Aa⟩
def bJ:goodFn Ab 155:=Ib func155
def NN(l:List AS)(g k:Nat)(caps:Nat->PV)(V:AS->Bool)(hg:goodFn Ab g)(hV:∀x,a6 Ab g (pA x::gu caps k 0) (a7 [pB (V x)])):a6 Ab 155 [pP (Cd l),pP (.fn g k caps)] (a7 [pI (Ee V l)]):=by
 refine Nb (nt:=19) func155 ?_;refine cw ?_;refine cj 0 rfl λhn=>?_;refine Tb ?_;refine c6 (ι:=Unit) kn km (λ_i=>⟨[],[]⟩) (λ_i=>Ee V l=-1) ?_ ?_
 ·
  refine Jb ?_;refine aa (ι:=Nat) (ka 0 (ka 1 (ka 7 kn))) km (λi=>⟨[(8,some (vI i))],[]⟩) (λi=>i<=l.length/\(∀j,j<i->V (l.getD j default)=false)) (λi=>l.length-i) (0) (⟨Zb _,aw⟩) kk ?_;rintro i ⟨hi,hI⟩;refine Eb ?_;refine Kb ?_ ?_<;>intro h0
  ·
   refine jz ?_;refine rc rfl rfl rfl rfl rfl rfl hg (hV (l.getD i default)) Ta rfl rfl ?_;refine cn ?_;refine We ?_ ?_<;>intro h1
   .refine Dd ?_;exact⟨Sb (oi (i:=i) Za hI h1).symm,Aa⟩
   refine Eb ?_;refine Rb (i+1) kk ?_;exact⟨by show i+1<=_;omega,al hI (h1)⟩
  refine cg ?_;refine⟨(), ?_, ?_⟩
  .exact p8 λj hj=>hI j Za
  exact⟨Aa,Aa⟩
 rintro _ hj;refine Kc ?_;exact⟨Sb hj.symm,Aa⟩
def FZ (l:List Fd) (g k:Nat) (caps:Nat->PV) (V:Fd->Bool) (hg:goodFn Ab g) (hV:∀x,a6 Ab g (x.pc::gu caps k 0) (a7 [pB (V x)])):a6 Ab 191 [pP (Ub l),pP (.fn g k caps)] (a7 [pB (l.any V)]):=by
 refine Nb (nt:=9) func191 ?_;refine Wb ?_;refine Fb (Ib func226) (ZZ l g k caps V hg hV) ?_;refine Ef ?_;exact⟨Vb w4,Aa⟩
def PN (l:List AS) (g k:Nat) (caps:Nat->PV) (V:AS->Bool) (hg:goodFn Ab g) (hV:∀x,a6 Ab g (pA x::gu caps k 0) (a7 [pB (V x)])):a6 Ab 162 [pP (Cd l),pP (.fn g k caps)] (a7 [pB (l.any V)]):=by
 refine Nb (nt:=9) func162 ?_;refine Wb ?_;refine Fb bJ (NN l g k caps V hg hV) ?_;refine Ef ?_;exact⟨Vb w4,Aa⟩
def bZ(l:List Fd)(s:Fd):a6 Ab 267 [pP (Ub l),s.pc] (a7 [pI (Ee (λx=>decide (x=s)) l)]):=by
 refine Nb (nt:=19) func267 ?_;refine cw ?_;refine cj 0 rfl λhn=>?_;refine gy ?_;refine m9 0 ?_;refine Cb ?_;refine c6 (ι:=Unit) kn km (λ_i=>⟨[],[]⟩) (λ_i=>Ee (λx=>decide (x=s)) l=-1) ?_ ?_
 ·
  refine Jb ?_;refine aa (ι:=Nat) (ka 0 (ka 3 (ka 7 kn))) (kb 0 km) (λi=>⟨[(8,some (vI i))],[]⟩) (λi=>i<=l.length/\(∀j,j<i->decide (l.getD j default=s)=false)) (λi=>l.length-i) (0) (⟨Zb _,aw⟩) kk ?_;rintro i ⟨hi,hI⟩;refine Eb ?_;refine Kb ?_ ?_<;>intro h0
  ·
   refine Tz ?_;refine We ?_ ?_<;>intro h1
   .refine Dd ?_;exact⟨Sb (oi (p:=λx=>decide (x=s)) (i:=i) Za hI (Fa (by simp_all [Fd.eq_iff,dm]))).symm,Aa⟩
   refine Eb ?_;refine Rb (i+1) kk ?_;exact⟨by show i+1<=_;omega,al hI (Ha λe=>by subst e;simp_all)⟩
  refine cg ?_;refine⟨(), ?_, ?_⟩
  .exact p8 (p:=λx=>decide (x=s)) λj hj=>hI j Za
  exact⟨Aa,Aa⟩
 rintro _ hj;refine Kc ?_;exact⟨Sb hj.symm,Aa⟩
def CY (l:List Fd) (s:Fd):a6 Ab 247 [pP (Ub l),s.pc] (a7 [pB (l.any λx=>decide (x=s))]):=by
 refine Nb (nt:=9) func247 ?_;refine Rc ?_;refine m9 0 ?_;refine Mb ?_;refine Fb (Ib func267) (bZ _ _) ?_;refine Ef ?_;exact⟨Vb w4,Aa⟩
def gI:goodFn Ab 101:=Ib func101
def PG(l:List AS)(g k:Nat)(caps:Nat->PV)(V:AS->Bool)(hg:goodFn Ab g)(hV:∀x,a6 Ab g (pA x::gu caps k 0) (a7 [pB (V x)])):dn Ab 101 [.one (.ref 900 l.length), .one (.p (.fn g k caps))] [(900, .arr true 1 48 l.length (lf sC l))] (.v (.one (.p (Cd (l.filter λx=>!V x))))) [] []:=by
 refine Eg (nt:=42) func101 ?_;refine cw ?_;refine Xw 900 rfl λhlen=>?_;refine Jb ?_;refine Fb bJ (NN l g k caps V hg hV) ?_;refine Wb ?_;refine Kb ?_ ?_<;>intro h0
 .refine Eb ?_;refine b5 4 rfl rfl rfl ?_;refine Db ?_;exact⟨_,_,rfl,Uf,bay (bU Gb),Aa⟩
 obtain⟨i0,hi0,hi1,hi2,hi3⟩:=KJ h0;refine Cc ?_;refine aa (ι:=Nat×Nat×List AS) (ka 0 (ka 1 kn)) km (λx=>⟨[(5,some (vI x.1)),(6,some (vI x.2.1))],[(900,some (.arr true 1 48 l.length (lf sC x.2.2)))]⟩) (λx=>Ym V l x.1 x.2.1 x.2.2) (λx=>l.length-x.2.1) ((i0,i0+1,l)) (Ym.start hi1 hi2 hi3) ⟨⟨⟨_,rfl,(Hd hi0)⟩,⟨_,rfl,(Hd (by dsimp only;omega))⟩,Aa⟩,uu⟩ ?_;rintro x hC;have hC0:=hC;obtain⟨hml,hkq,hql,_,_⟩:=hC0;refine Wb ?_;refine Kb ?_ ?_<;>intro h1
 ·
  refine jz ?_;refine rc rfl rfl rfl rfl rfl rfl hg (hV (x.2.2.getD (x.2.1:Int).toNat default)) Ta rfl rfl ?_;refine Cb ?_;refine Xd ?_ ?_<;>intro h2
  ·
   have hv:=h2;refine Tz ?_
   first | (refine Rb (x.1+1, x.2.1+1, x.2.2.set x.1 (x.2.2.getD x.2.1 default)) ⟨⟨⟨_, rfl, (Hd Yj)⟩, ⟨_, rfl, (Hd Yj)⟩, tt⟩, ⟨⟨_, rfl, (uy id hml.symm Za Za Za)⟩, trivial⟩⟩ ?_; exact hC.keep Za (by simpa using hv))
         |(refine Rb (x.1,x.2.1+1,x.2.2) ⟨⟨⟨_,rfl,(Hd Lh)⟩,⟨_,rfl,(Hd Lh)⟩,tt⟩,uu⟩ ?_;exact hC.skip Za (by simpa using hv))
  have hv:=h2;refine Mb ?_
  first | (refine Rb (x.1+1, x.2.1+1, x.2.2.set x.1 (x.2.2.getD x.2.1 default)) ⟨⟨⟨_, rfl, (Hd Yj)⟩, ⟨_, rfl, (Hd Yj)⟩, tt⟩, ⟨⟨_, rfl, (uy id hml.symm Za Za Za)⟩, trivial⟩⟩ ?_; exact hC.keep Za (by simpa using hv))
        |(refine Rb (x.1,x.2.1+1,x.2.2) ⟨⟨⟨_,rfl,(Hd Lh)⟩,⟨_,rfl,(Hd Lh)⟩,tt⟩,uu⟩ ?_;exact hC.skip Za (by simpa using hv))
 have hq:=h1;refine Mb ?_;refine Ed 0 true ?_;refine Eb ?_;refine JC rfl rfl rfl rfl rfl ?_;refine Cb ?_;refine Db ?_;exact⟨_,_,rfl,Uf,ber hC Za (by simp[bh]),Aa⟩
end
section
def bw(s:AS)(i:Int):Bool:=decide (0<=i/\i<32)&&s.getLsbD i.toNat
def j6 {s:AS} {i:Nat} (h:i<32):bw s i=s.getLsbD i:=by
 unfold bw;rw[Fa Za];simp
def iD{s:AS}{i:Int}(h0:0<=i)(h1:i<32):decide (bq .and .u32 ((Hb s).fdiv (2^(min i.toNat 32))) 1=1)=bw s i:=by
 unfold bw;rw[yu,show(1:Int)=Hb 1 from rfl,jh,Fa (show 0<=i/\i<32 from ⟨h0,h1⟩),Aj]
 have e:Hb (s>>>i.toNat&&&1)=Hb 1<->s.getLsbD i.toNat=true:=by
  rw[dm];constructor
  .intro h
   have:=Da (λx:AS=>x.getLsbD 0) h;simpa using this
  intro h;apply Tl;intro k hk;have h1:(1:AS).getLsbD k=decide (k=0):=by have:=wu 0 k hk;simpa using this
  rw[Hg,Jv,h1];by_cases hk0:k=0
  .subst hk0;simp[h]
  simp[hk0]
 cases hb:s.getLsbD i.toNat with
 |true=>exact Fa (e.2 hb)
 |false=>exact Ha λh=>by rw[e.1 h]at hb;cases hb
def Hu {s:AS} {i:Int} (h:¬(0<=i/\i<32)):bw s i=false:=by
 unfold bw;rw[Ha h];rfl
def ard {n:Nat} (h:n<=32):l4 n=BitVec.ofNat 32 (2^n-1):=by
 apply Tl;intro k hk;rw[oe n k hk,BitVec.getLsbD_ofNat,Nat.testBit_two_pow_sub_one];simp[hk]
def ar9 {n:Nat} (h:n<=32):(l4 n).toNat=2^n-1:=by
 have h2:2^n<=2^32:=Gv Za h;have h3:0<2^n:=Nat.two_pow_pos n;rw[ard h,BitVec.toNat_ofNat,Gz Za]
section
variable {n:Int}
def iq{l:List Fd}(h:br n l=0):0<=n/\n<=16/\l.length<=64/\l.all (Ue n)=true:=by
 unfold br at h;split at h
 .cases h
 split at h
 .cases h
 split at h
 .rename_i h1 h2 h3
  exact⟨by omega,by omega,by omega,h3⟩
 cases h
def vd (h0:0<=n) (h1:n<=16):IntKind.wrap .u32 (1*2^(min n.toNat 32))-1=Hb (ak n):=by
 have h2:2^n.toNat<=2^16:=Gv Za Za;have h3:0<2^n.toNat:=Nat.two_pow_pos _;rw[show IntKind.wrap .u32 (1*2^(min n.toNat 32))=Hb ((1:AS)<<<n.toNat) from Sz 1 n.toNat];unfold ak Hb;rw[Gi Za,ar9 Za,BitVec.toNat_shiftLeft,Nat.shiftLeft_eq];rw[show(1:AS).toNat=1 from rfl,Nat.one_mul,Gz Za];omega
def gH {s:AS} (h0:0<=n) (h1:n<=16):(Hb s).fdiv (2^(min n.toNat 32))=0<->sub s (ak n):=by
 rw[yu,show(0:Int)=Hb 0 from rfl,dm];unfold ak;rw[Gi Za];exact(zf Za).symm
def MB(h0:0<=n)(h1:n<=16):0<=IntKind.wrap .u32 (1*2^(min n.toNat 32))-1:=by rw[vd h0 h1];exact OA _
def y8(h0:0<=n)(h1:n<=16):IntKind.wrap .u32 (1*2^(min n.toNat 32))-1<=4294967295:=by rw[vd h0 h1];have:=WD (ak n);omega
def p9(n:Int)(l:List Fd)(s:AS):Bool:=decide (br n l=0/\sub s (ak n)/\clo l s=ak n)
end
section
variable {n:Int}{l:List Fd}{s:AS}
def GG(h:¬br n l=0):p9 n l s=false:=Ha λe=>h e.1
def wG (h:br n l=0) (h2:(Hb s).fdiv (2^(min n.toNat 32))=0):decide (Hb (clo l s)=Hb (ak n))=p9 n l s:=by
 have hv:=iq h;have h3:=(gH hv.1 hv.2.1).1 h2;exact decide_eq_decide.2 ⟨λe=>⟨h,h3,dm.1 e⟩,λe=>Da Hb e.2.2⟩
def fH (h:br n l=0) (h2:¬(Hb s).fdiv (2^(min n.toNat 32))=0):p9 n l s=false:=by
 have hv:=iq h;exact Ha λe=>h2 ((gH hv.1 hv.2.1).2 e.2.1)
end
def jg(n:Int)(l:List Fd)(m:Int):Int:=if br n l=0 then(if m<n then 3 else 0)else br n l
structure Dp where
 l:BitVec 8
 r:BitVec 8
deriving Inhabited
def Dp.c (d:Dp):Nat->PV
 |0=>.raw (.int .u8 (d.l.toNat:Int))
 |1=>.raw (.int .u8 (d.r.toNat:Int))
 |_=>.any
abbrev Tu(l:List Dp):PV:=Ff 2 Dp.c l
def Dp.fd(n:Int)(d:Dp):Fd:=⟨d.l.setWidth 32&&&ak n,d.r.setWidth 32&&&ak n⟩
def HA (b:BitVec 8) (t:AS):bq .and .u32 (b.toNat:Int) (Hb t)=Hb (b.setWidth 32&&&t):=by
 have h:=b.isLt
 have e:Hb (b.setWidth 32)=(b.toNat:Int):=by
  unfold Hb;rw[BitVec.toNat_setWidth,Gz Za]
 rw[<- jh,e]
end
section
open Go.Proofs
def Gu:goodFn Ab 71:=Ib func71
def Dt(s:AS)(i:Int):a6 Ab 71 [pA s,pI i] (a7 [pB (bw s i)]):=by
 refine Nb (nt:=18) func71 ?_;refine Cc ?_;refine af rfl rfl ?_ ?_<;>intro r0
 ·
  have h0:=Bc r0;(iterate 2 refine qy ?_ (hg:=(Lc r0)));refine Cb ?_;refine af rfl rfl ?_ ?_<;>intro r1
  ·
   have h1:=Bc (bp r0 r1);(iterate 5 refine qy ?_ (hg:=(Lc r1)));refine Tb ?_
   exact Nc rfl rfl rfl (⟨Vb (by first|exact dq Gb (iD Za Za)|exact(Hu Za).symm),Aa⟩)
  have h1:=Ac (bp r0 r1);(iterate 5 refine k9 (Vd r1) ?_);refine Tb ?_
  exact Nc rfl rfl rfl (⟨Vb (by first|exact dq Gb (iD Za Za)|exact(Hu Za).symm),Aa⟩)
 have h0:=Ac r0;(iterate 2 refine k9 (Vd r0) ?_);refine Cb ?_;(iterate 5 refine k9 rfl ?_);refine Tb ?_
 exact Nc rfl rfl rfl (⟨Vb (by first|exact dq Gb (iD Za Za)|exact(Hu Za).symm),Aa⟩)
def E5 (n:Int) (h0:0<=n) (h1:n<=16):a6 Ab 140 [pI n] (a7 [pA (ak n)]):=by
 refine Nb (nt:=6) func140 ?_;refine Wb ?_;refine rq rfl rfl rfl rfl rfl ?_ (hp:=⟨MB h0 h1,y8 h0 h1⟩);refine Tf ?_;exact⟨Sb (vd h0 h1),Aa⟩
def K8 (n:Int) (h0:0<=n) (h1:n<=16):a6 Ab 87 [pI n] (a7 [pA (ak n)]):=by
 refine Nb (nt:=6) func87 ?_;refine Wb ?_;refine rq rfl rfl rfl rfl rfl ?_ (hp:=⟨MB h0 h1,y8 h0 h1⟩);refine Tf ?_;exact⟨Sb (vd h0 h1),Aa⟩
def wN (n:Int) (h0:0<=n) (h1:n<=16):a6 Ab 90 [pI n] (a7 [pA (ak n)]):=by
 refine Nb (nt:=6) func90 ?_;refine Wb ?_;refine rq rfl rfl rfl rfl rfl ?_ (hp:=⟨MB h0 h1,y8 h0 h1⟩);refine Tf ?_;exact⟨Sb (vd h0 h1),Aa⟩
def WF{p:Prop}(h:p:=by unfold jg;first|(rw[Ca Gb])|(rw[Ba Za,Ba Za])|(rw[Ba Za,Ca Za])):p:=h
def zM (n:Int) (l:List Fd):a6 Ab 89 [pI n,pP (Ub l)] (a7 [pI (jg n l 8)]):=by
 refine Nb (nt:=14) func89 ?_;refine Cc ?_;refine Fb Eu (Fu n l) ?_;refine Jb ?_;refine Sc ?_ ?_<;>intro h0
 .refine Dd ?_;exact⟨Sb WF,Aa⟩
 refine Jb ?_;refine Kb ?_ ?_<;>intro h1
 .refine Kc ?_;exact⟨Sb WF,Aa⟩
 refine Dd ?_;exact⟨Sb WF,Aa⟩
def EH:goodFn Ab 85:=Ib func85
def EG(n:Int)(l:List Fd)(s:AS):a6 Ab 85 [pI n,pP (Ub l),pA s] (a7 [pB (p9 n l s)]):=by
 refine Nb (nt:=25) func85 ?_;refine Wb ?_;refine Fb Eu (Fu n l) ?_;refine Cb ?_;refine af rfl rfl ?_ ?_<;>intro r0
 ·
  have h0:=Bc r0;obtain⟨hv0,hv1,_,_⟩:=iq h0;(iterate 4 refine qy ?_ (hg:=(Lc r0)));refine Cb ?_;refine af rfl rfl ?_ ?_<;>intro r1
  ·
   have h1:=Bc (bp r0 r1);(iterate 2 refine qy ?_ (hg:=(Lc r1)));refine Fb uo (xx l s) ?_ (hg:=(Lc r1));refine qy ?_ (hg:=(Lc r1))
   refine Fb (Ib func140) (E5 n (iq Gb).1 (iq Gb).2.1) ?_ (hg:=(Lc r1));refine qy ?_ (hg:=(Lc r1));refine Ef ?_;exact⟨Vb (by first|exact dq Gb (wG Gb Gb)|exact(GG Gb).symm|exact(fH Gb Gb).symm),Aa⟩
  have h1:=Ac (bp r0 r1);(iterate 6 refine k9 (Vd r1) ?_);refine Tb ?_
  exact Nc rfl rfl rfl (⟨Vb (by first|exact dq Gb (wG Gb Gb)|exact(GG Gb).symm|exact(fH Gb Gb).symm),Aa⟩)
 have h0:=Ac r0;(iterate 4 refine k9 (Vd r0) ?_);refine Cb ?_;(iterate 6 refine k9 rfl ?_);refine Tb ?_
 exact Nc rfl rfl rfl (⟨Vb (by first|exact dq Gb (wG Gb Gb)|exact(GG Gb).symm|exact(fH Gb Gb).symm),Aa⟩)
end
def Kd(s:AS):Nat:=(List.range 32).countP λi=>s.getLsbD i
def Oh(a b:AS):Bool:=decide (Kd a<Kd b)||(decide (Kd a=Kd b)&&decide (a.toNat<b.toNat))
def dE(a:AS):Oh a a=false:=by simp[Oh]
def uh{a b:AS}:Oh a b=true<->Kd a<Kd b\/(Kd a=Kd b/\a.toNat<b.toNat):=by simp[Oh]
def zF {a b c:AS} (h:Oh a b=true) (k:Oh b c=true):Oh a c=true:=by
 rw[uh]at *;omega
def II {a b:AS} (h:a≠b):Oh a b=true\/Oh b a=true:=by
 have hn:a.toNat≠b.toNat:=λe=>h (Qi e);rw[uh,uh];omega
def b4m {a b:AS} (h:Oh a b=true):Oh b a=false:=by
 rw[Ie];intro k;have:=zF h k;rw[dE]at this;cases this
def yk(l:List AS):Prop:=l.Pairwise λa b=>Oh a b=true
def LL:∀{l k:List AS},yk l->yk k->(∀x,x∈l<->x∈k)->l=k
 | [],[],_,_,_=>rfl
 | [],y::k,_,_,h=>Ea ((h y).2 (Yh ..)) Ec
 |x::l,[],_,_,h=>Ea ((h x).1 (Yh ..)) Ec
 | x :: l,y::k,hl,hk,h=>by
  obtain⟨h1,h2⟩:=Hh.1 hl;obtain⟨k1,k2⟩:=Hh.1 hk
  have e:x=y:=by
   rcases Jd.1 ((h x).1 (Yh ..))with e|hx
   .exact e
   rcases Jd.1 ((h y).2 (Yh ..))with e|hy
   .exact e.symm
   have:=b4m (k1 x hx);rw[h1 y hy]at this;cases this
  subst e;congr 1;refine LL h2 k2 λz=>?_;constructor
  .intro hz
   rcases Jd.1 ((h z).1 (Jh _ hz))with e|hz'
   .subst e
    have:=h1 z hz;rw[dE]at this;cases this
   exact hz'
  intro hz
  rcases Jd.1 ((h z).2 (Jh _ hz))with e|hz'
  .subst e
   have:=k1 z hz;rw[dE]at this;cases this
  exact hz'
def qg (x:AS):List AS->List AS
 | []=>[x]
 |y::l=>if x=y then y::l else if Oh x y=true then x::y::l else y::qg x l
def LJ{x z:AS}:∀{l:List AS},z∈qg x l<->z=x\/z∈l
 | []=>by simp[qg]
 | y :: l=>by
  unfold qg;split
  .rename_i e
   subst e;simp
  split
  .simp
  rw[Jd,LJ,Jd];constructor
  .rintro(h|h|h)<;>simp[h]
  rintro(h|h|h)<;>simp[h]
def TU{x:AS}:∀{l:List AS},yk l->yk (qg x l)
 | [],_=>by simp[qg,yk]
 | y :: l,h=>by
  obtain⟨h1,h2⟩:=Hh.1 h;unfold qg;split
  .exact h
  split
  .rename_i hxy
   refine Hh.2 ⟨λz hz=>?_,h⟩
   rcases Jd.1 hz with rfl|hz
   .exact hxy
   exact zF hxy (h1 z hz)
  rename_i hne hxy;refine Hh.2 ⟨λz hz=>?_,TU h2⟩
  rcases LJ.1 hz with rfl|hz
  .exact(II hne).resolve_left hxy
  exact h1 z hz
def ord(l:List AS):List AS:=l.foldl (λo x=>qg x o) []
def RI:∀{l o:List AS},yk o->yk (l.foldl (λo x=>qg x o) o)/\∀z,z∈l.foldl (λo x=>qg x o) o<->z∈o\/z∈l
 | [],o,h=>⟨h,λz=>by simp⟩
 | x::l,o,h=>by
  obtain⟨h1,h2⟩:=RI (l:=l) (TU (x:=x) h);refine⟨h1,λz=>?_⟩;show z∈l.foldl (λo x=>qg x o) (qg x o)<->_;rw[h2 z,LJ,Jd];constructor
  .rintro((h|h)|h)<;>simp[h]
  rintro(h|h|h)<;>simp[h]
def FJ(l:List AS):yk (ord l):=(RI (o:=[]) List.Pairwise.nil).1
def zz {l:List AS} {z:AS}:z∈ord l<->z∈l:=by
 show z∈l.foldl (λo x=>qg x o) []<->_;rw[(RI (l:=l) (o:=[]) List.Pairwise.nil).2 z];simp
def J8{l k:List AS}(hk:yk k)(h:∀z,z∈k<->z∈l):k=ord l:=LL hk (FJ l) λz=>by rw[h z,zz]
section
def am(s:AS):List Nat:=(List.range 32).filter λi=>s.getLsbD i
def iC:Nat->Nat->PV:=λn _=>.raw (.int .i64 (n:Int))
abbrev il(l:List Nat):PV:=Ff 1 iC l
def uF(s:AS):Kd s=(am s).length:=by unfold Kd am;rw[List.countP_eq_length_filter]
section
variable {s:AS}
def od{i:Nat}:i∈am s<->i<32/\s.getLsbD i=true:=by simp[am,Jo,Fe]
def OW{p:Nat->Bool}{t:Nat}:∀{l:List Nat},l.Pairwise (·<·)->t∈l->p t=true->(∀k,k<t->p k=false)->l.filter p=t::l.filter λk=>decide (k≠t)&&p k
 | [],_,h,_,_=>by cases h
 | a :: l,hp,hm,h1,h2=>by
  obtain⟨q1,q2⟩:=Hh.1 hp;by_cases ha:a=t
  .subst ha
   have e:l.filter p=l.filter λk=>decide (k≠a)&&p k:=by
    apply List.filter_congr;intro k hk;have:=q1 k hk;rw[Fa Za,Aj]
   simp[Bk,h1,e]
  have hm':t∈l:=by
   rcases Jd.1 hm with h|h
   .exact Ea h.symm ha
   exact h
  have:=q1 t hm';have hpa:=h2 a this;simp[Bk,hpa,OW q2 hm' h1 h2]
def j4(s:AS):Nat:=Lib.ctz 32 s.toNat
def b4r (h:s≠0):∃m,s.toNat=2^(j4 s+1)*m+2^j4 s/\j4 s<32:=by
 have h0:s.toNat≠0:=λe=>h (Qi e);obtain⟨m,h1,h2⟩:=Lib.ctzFrom_spec 32 s.toNat Za s.isLt;have e:j4 s=Lib.ctzFrom 32 s.toNat:=by unfold j4 Lib.ctz;rw[Ca h0]
 rw[e];refine⟨m, ?_,h2⟩;rw[Nat.pow_succ];rw[h1]at *;simp only[Nat.mul_add,Nat.mul_assoc,Zj]at *;exact h1
def x9(h:s≠0):j4 s<32/\s.getLsbD (j4 s)=true/\(∀k,k<j4 s->s.getLsbD k=false)/\s&&&(s-1)=s&&&~~~((1:AS)<<<j4 s):=by
 obtain⟨m,h1,h2⟩:=b4r h;generalize j4 s=t at *;have hp:2^t<2^(t+1):=Nat.pow_lt_pow_right Za Za
 have hb:∀k,s.getLsbD k=if k<t+1 then(2^t).testBit k else m.testBit (k-(t+1)):=λk=>by
  show s.toNat.testBit k=_;rw[h1,Nat.testBit_two_pow_mul_add _ hp]
 have hq:0<2^t:=Nat.two_pow_pos t
 have e1:(s-1).toNat=2^(t+1)*m+(2^t-1):=by
  have:=s.isLt;rw[BitVec.toNat_sub];show(2^32-1+s.toNat)%2^32=_;omega
 have hd:∀k,(s-1).getLsbD k=if k<t+1 then(2^t-1).testBit k else m.testBit (k-(t+1)):=λk=>by
  show(s-1).toNat.testBit k=_;rw[e1,Nat.testBit_two_pow_mul_add _ Za]
 refine⟨h2, ?_,λk hk=>?_, ?_⟩
 .rw[hb,Ba Za,Nat.testBit_two_pow_self]
 .rw [hb,Ba Za,Nat.testBit_two_pow]
  simp;omega
 apply Tl;intro k hk;rw[Hg,Hg,Jl,wu _ _ hk,hd k,hb k];by_cases h3:k<t+1
 .rw [Ba h3,Ba h3,Nat.testBit_two_pow,Nat.testBit_two_pow_sub_one]
  by_cases h4:k=t
  .subst h4;simp
  have:¬t=k:=λe=>h4 e.symm;simp[this]
 rw[Ca h3,Ca h3];have:¬k=t:=by omega
 simp[hk,this]
def cL (h:s≠0) (k:Nat) (hk:k<32):(s&&&(s-1)).getLsbD k=(decide (k≠j4 s)&&s.getLsbD k):=by
 rw[(x9 h).2.2.2,Hg,Jl,wu _ _ hk];by_cases e:k=j4 s<;>simp[e,hk,Bool.and_comm]
def b2o (h:s≠0):am s=j4 s::am (s&&&(s-1)):=by
 obtain⟨h1,h2,h3,_⟩:=x9 h;unfold am;rw[OW List.pairwise_lt_range (Fe.2 h1) h2 h3];congr 1;apply List.filter_congr;intro k hk;rw[cL h k (Fe.1 hk)]
def bW:am 0=[]:=by
 unfold am;rw[pC];intro k _;simp
def b4b(h:s≠0):(s&&&(s-1)).toNat<s.toNat:=by
 refine Dy (ci.2 λi hi hb=>?_) λe=>?_
 .rw [cL h i hi]at hb
  simp only[Od]at hb;exact hb.2
 have:=cL h (j4 s) (x9 h).1;rw[e,(x9 h).2.1]at this;simp at this
end
end
end Go.Hx
