/- A part of the proof: HxEnv Hx19 Hx23 Cs1 Cs3 Ty1 V1 Cs4 V2 Cl1 V3. -/
import Derived.Deep.AppendLies
import Derived.Laws.CopyRow
import Derived.Shelf.Spec.SlicesInsertGrow
import Derived.Test.YtmoggbnlhllhaaaGreatDoorProg
import Derived.Test.YtmoggbnlhllhaaaGreatDoorTx11
set_option linter.all false
set_option maxRecDepth 100000
section
namespace Go.Hx
open Go.Proofs
noncomputable abbrev bnb:=Tryz.prog
def vn:List (Nat×Nat):=[(22,65),(27,9),(28,106),(38,37),(40,26),(44,2),(49,57),(56,59),(57,3),(65,5),(85,35),(100,102),(102,57),(104,141),(161,221),(247,4),(272,51),(300,301),(326,38)]
def a4q:List (Nat×TI):=[(1,⟨.func,1,8,some [.nilFunc],false,false,true⟩),(2,⟨.int .i64,1,8,some [.int .i64 0],false,false,true⟩),(3,⟨.int .i64,1,8,some [.int .i64 0],false,false,true⟩),(4,⟨.bool,1,1,some [.bool false],false,false,true⟩),(5,⟨.int .u8,1,1,some [.int .u8 0],false,false,true⟩),(6,⟨.int .u8,1,1,some [.int .u8 0],false,false,true⟩),(7,⟨.struct [(0,2,false),(1,3,false),(2,4,false),(3,6,false)],4,24,some [.int .i64 0, .int .i64 0, .bool false, .int .u8 0],false,false,false⟩),(8,⟨.struct [(0,2,false),(1,3,false),(2,4,false),(3,6,false)],4,24,some [.int .i64 0, .int .i64 0, .bool false, .int .u8 0],false,false,false⟩),(9,⟨.string,1,16,some [.string ⟨#[]⟩],false,false,true⟩),(21,⟨.int .i32,1,4,some [.int .i32 0],false,false,true⟩),(23,⟨.struct [(0,5,false),(1,5,false),(2,22,false)],3,32,some [.int .u8 0, .int .u8 0, .slice none 0 0],false,false,false⟩),(24,⟨.struct [(0,5,false),(1,5,false),(2,22,false)],3,32,some [.int .u8 0, .int .u8 0, .slice none 0 0],false,false,false⟩),(25,⟨.struct [(0,5,false),(1,5,false)],2,2,some [.int .u8 0, .int .u8 0],false,false,false⟩),(26,⟨.struct [(0,5,false),(1,5,false)],2,2,some [.int .u8 0, .int .u8 0],false,false,false⟩),(29,⟨.struct [(0,9,false),(1,27,false),(2,28,false)],3,64,some [.string ⟨#[]⟩, .slice none 0 0, .slice none 0 0],false,false,false⟩),(30,⟨.struct [(0,9,false),(1,27,false),(2,28,false)],3,64,some [.string ⟨#[]⟩, .slice none 0 0, .slice none 0 0],false,false,false⟩),(34,⟨.int .u32,1,4,some [.int .u32 0],false,false,true⟩),(35,⟨.int .u32,1,4,some [.int .u32 0],false,false,true⟩),(36,⟨.struct [(0,35,false),(1,35,false)],2,8,some [.int .u32 0, .int .u32 0],false,false,false⟩),(37,⟨.struct [(0,35,false),(1,35,false)],2,8,some [.int .u32 0, .int .u32 0],false,false,false⟩),(41,⟨.int .i64,1,8,some [.int .i64 0],false,false,true⟩),(50,⟨.struct [(0,3,false),(1,49,false)],2,32,some [.int .i64 0, .slice none 0 0],false,false,false⟩),(51,⟨.struct [(0,3,false),(1,49,false)],2,32,some [.int .i64 0, .slice none 0 0],false,false,false⟩),(58,⟨.struct [(0,2,false),(1,2,false)],2,16,some [.int .i64 0, .int .i64 0],false,false,false⟩),(59,⟨.struct [(0,2,false),(1,2,false)],2,16,some [.int .i64 0, .int .i64 0],false,false,false⟩),(87,⟨.func,1,8,some [.nilFunc],false,false,true⟩),(105,⟨.struct [(0,2,false),(1,104,false)],2,32,some [.int .i64 0, .slice none 0 0],false,false,false⟩),(106,⟨.struct [(0,2,false),(1,104,false)],2,32,some [.int .i64 0, .slice none 0 0],false,false,false⟩),(113,⟨.map 3 3,1,8,some [.map none],false,false,true⟩),(114,⟨.func,1,8,some [.nilFunc],false,false,true⟩),(117,⟨.int .u64,1,8,some [.int .u64 0],false,false,true⟩),(118,⟨.struct [(0,117,false),(1,117,false)],2,16,some [.int .u64 0, .int .u64 0],false,false,false⟩),(119,⟨.struct [(0,117,false),(1,117,false)],2,16,some [.int .u64 0, .int .u64 0],false,false,false⟩),(138,⟨.func,1,8,some [.nilFunc],false,false,true⟩),(139,⟨.func,1,8,some [.nilFunc],false,false,true⟩),(140,⟨.struct [(0,3,false),(1,2,false),(2,9,false)],3,32,some [.int .i64 0, .int .i64 0, .string ⟨#[]⟩],false,false,false⟩),(141,⟨.struct [(0,3,false),(1,2,false),(2,9,false)],3,32,some [.int .i64 0, .int .i64 0, .string ⟨#[]⟩],false,false,false⟩),(168,⟨.func,1,8,some [.nilFunc],false,false,true⟩),(170,⟨.pointer 172,1,8,some [.pointer none],false,false,true⟩),(171,⟨.struct [(0,170,false),(1,65,false)],2,32,some [.pointer none, .slice none 0 0],false,false,false⟩),(172,⟨.struct [(0,170,false),(1,65,false)],2,32,some [.pointer none, .slice none 0 0],false,false,false⟩),(183,⟨.int .u64,1,8,some [.int .u64 0],false,false,true⟩),(193,⟨.func,1,8,some [.nilFunc],false,false,true⟩),(194,⟨.func,1,8,some [.nilFunc],false,false,true⟩),(198,⟨.func,1,8,some [.nilFunc],false,false,true⟩),(199,⟨.func,1,8,some [.nilFunc],false,false,true⟩),(212,⟨.func,1,8,some [.nilFunc],false,false,true⟩),(213,⟨.struct [(0,3,false),(1,57,false)],2,32,some [.int .i64 0, .slice none 0 0],false,false,false⟩),(214,⟨.struct [(0,3,false),(1,57,false)],2,32,some [.int .i64 0, .slice none 0 0],false,false,false⟩),(216,⟨.map 35 57,1,8,some [.map none],false,false,true⟩),(219,⟨.func,1,8,some [.nilFunc],false,false,true⟩),(220,⟨.struct [(0,35,false),(1,2,false),(2,2,false)],3,24,some [.int .u32 0, .int .i64 0, .int .i64 0],false,false,false⟩),(221,⟨.struct [(0,35,false),(1,2,false),(2,2,false)],3,24,some [.int .u32 0, .int .i64 0, .int .i64 0],false,false,false⟩),(222,⟨.map 35 224,1,8,some [.map none],false,false,true⟩),(224,⟨.array 2 2,2,16,some [.int .i64 0, .int .i64 0],false,false,false⟩),(228,⟨.func,1,8,some [.nilFunc],false,false,true⟩),(233,⟨.pointer 5,1,8,some [.pointer none],false,false,true⟩),(234,⟨.map 9 3,1,8,some [.map none],false,false,true⟩),(237,⟨.int .i64,1,8,some [.int .i64 0],false,false,true⟩),(256,⟨.func,1,8,some [.nilFunc],false,false,true⟩),(269,⟨.map 35 35,1,8,some [.map none],false,false,true⟩),(278,⟨.array 32 5,32,32,some [.int .u8 0, .int .u8 0, .int .u8 0, .int .u8 0, .int .u8 0, .int .u8 0, .int .u8 0, .int .u8 0, .int .u8 0, .int .u8 0, .int .u8 0, .int .u8 0, .int .u8 0, .int .u8 0, .int .u8 0, .int .u8 0, .int .u8 0, .int .u8 0, .int .u8 0, .int .u8 0, .int .u8 0, .int .u8 0, .int .u8 0, .int .u8 0, .int .u8 0, .int .u8 0, .int .u8 0, .int .u8 0, .int .u8 0, .int .u8 0, .int .u8 0, .int .u8 0],false,false,false⟩),(281,⟨.int .u64,1,8,some [.int .u64 0],false,false,true⟩),(285,⟨.pointer 3,1,8,some [.pointer none],false,false,true⟩),(301,⟨.array 2 3,2,16,some [.int .i64 0, .int .i64 0],false,false,false⟩),(303,⟨.pointer 281,1,8,some [.pointer none],false,false,true⟩),(320,⟨.map 301 3,1,8,some [.map none],false,false,true⟩)]
def abn {α:Type}:List (Nat×α)->Nat->Option α
 | [],_=>none
 |(a,x)::r,n=>bif Nat.beq a n then some x else abn r n
def cq:Env:=fun t=>match abn vn t with|some e=>some ⟨.slice e,1,24,some [.slice none 0 0],false,false,true⟩|none=>abn a4q t
def a7x {α:Type}:∀{l:List (Nat×α)} {t:Nat} {i:α},abn l t=some i->(t,i)∈l
 | (a,x)::r,t,i,h=>by
  simp only[abn]at h
  cases hb:Nat.beq a t with
  |true=>rw[hb]at h;cases h;rw[bjh hb];exact bj6
  |false=>rw[hb]at h;exact bj0 _ (a7x h)
def aw5:a4q.map (fun p=>sj bnb p.1)=a4q.map (fun p=>some p.2):=by kernel_rfl
def aso:vn.map (fun p=>sj bnb p.1)=vn.map (fun p=>some ⟨.slice p.2,1,24,some [.slice none 0 0],false,false,true⟩):=by kernel_rfl
def ca:cb bnb cq:=fun t i h=>by
 unfold cq at h
 cases hs:abn vn t with
 |some e=>rw[hs]at h;cases h;exact List.map_inj_left.1 aso (t,e) (a7x hs)
 |none=>rw[hs]at h;exact List.map_inj_left.1 aw5 (t,i) (a7x h)
def a3n:bnb.follows .mixedOrders=true:=by kernel_rfl
end Go.Hx
namespace Go.Hx
open Go.Proofs
section
variable {ro:Option Nat}{P:Program}{E:Env}{nt:Nat}{ops:Array Oper}{i:Nat}{o:Oper}{st:HSt}{L:List Nat}{K:List Tr->HSt->Prop}{Q:Exit->HSt->Prop}
section
variable {gb:Bool}
def qy {out:Out} (hT:Reg P E nt ops L (st.after o.dst (some out.val) []) fun T sf=>K (⟨i,a85 true out.val.ids,looks st.den o,c4 st.den o.dst [],eo E st.den o⟩::T) sf) (hi:ops[i]? = some o:=by exact rfl) (hw:ax ops st.den o=some gb:=by exact rfl) (hd:c7 nt o.dst=true:=by exact rfl) (hq':hq E true st.den.o (ev st.den) o.op=some out:=by exact rfl) (hg:gb=true:=by exact rfl) (hp:out.pre:=by first|exact trivial|(simp only[j2,inR,j9,jv];omega)|exact ajc _ _|exact⟨trivial,trivial⟩|exact⟨trivial,bis rfl⟩|(try dsimp only)<;>((repeat' apply And.intro)<;>first|trivial|rfl|omega|(simp only[gw,c8];omega)|assumption|exact bis rfl)):
 Reg P E nt ops (i::L) st K:=d7 true hi hw hd hq' hg hp hT
def k9(hg:gb=false)(hT:Reg P E nt ops L (st.after o.dst (some (.tup [])) []) fun T sf=>K (⟨i,a85 true [],looks st.den o,c4 st.den o.dst [],none⟩::T) sf)(hi:ops[i]? = some o:=by exact rfl)(hw:ax ops st.den o=some gb:=by exact rfl)(hd:c7 nt o.dst=true:=by exact rfl):Reg P E nt ops (i::L) st K:=amp hi hw hd hg hT
def m9(id:Nat){nw:New}(hT:Reg P E nt ops L (st.after o.dst (some nw.val) [(id,some nw.ob)]) fun T sf=>K (⟨i,⟨id,false,true, .tup [],[id],[id],nw.val.ids++nw.ob.ids⟩,looks st.den o,c4 st.den o.dst [(id,some nw.ob)],none⟩::T) sf)(hi:ops[i]? = some o:=by exact rfl)(hw:ax ops st.den o=some gb:=by exact rfl)(hd:c7 nt o.dst=true:=by exact rfl)(hq':ha E (ev st.den) id o.op=some nw:=by exact rfl)(hn:jx id st=true:=by exact rfl)(hg:gb=true:=by exact rfl)(hp:nw.pre:=by first|exact trivial|(try dsimp only)<;>((repeat' apply And.intro)<;>first|trivial|rfl|omega|assumption)):Reg P E nt ops (i::L) st K:=a11 id hi hw hd hq' hn hg hp hT
def s9{u:Upd}(hT:Reg P E nt ops L (st.after o.dst none [(u.id,some u.ob)]) fun T sf=>K (⟨i,⟨0,false,true, .tup [],[u.id],[],u.ob.ids⟩,looks st.den o,c4 st.den o.dst [(u.id,some u.ob)],eo E st.den o⟩::T) sf)(hi:ops[i]? = some o:=by exact rfl)(hw:ax ops st.den o=some gb:=by exact rfl)(hd:c7 nt o.dst=true:=by exact rfl)(hq':hs E st.den.o (ev st.den) o.op=some u:=by exact rfl)(hg:gb=true:=by exact rfl)(hp:u.pre:=by first|exact bis rfl|(try dsimp only)<;>((repeat' apply And.intro)<;>first|trivial|rfl|omega|(simp only[gw,c8];omega)|assumption|exact bis rfl)):Reg P E nt ops (i::L) st K:=aki hi hw hd hq' hg hp hT
variable {p:Prop}
def f9{rs:List ResultVar}{res:List PC}{q:Prop}{l:List HC}{vs:List PC}(h1:xj E st.den rs=some (p,l))(h2:ns st.den.o l=some (q,vs))(hc:CoL vs res)(hp:p:=by(repeat' apply And.intro)<;>first|trivial|exact bis rfl|rfl)(hq:q:=by(repeat' apply And.intro)<;>first|trivial|exact bis rfl|rfl):aai E st rs res:=⟨p,l,q,vs,h1,hp,h2,hq,hc⟩
def c9{f:Option HR}{x:HR}(h:f=some x:=by exact rfl):∃y,f=some y/\CoR y x:=⟨x,h,CoR.refl x⟩
def u9{f:Option ae}{x:ae}(h:f=some x:=by exact rfl):∃y,f=some y/\CoO y x:=⟨x,h,CoO.refl x⟩
def zy{f:Option HR}{x y:HR}(h:f=some y:=by exact rfl)(c:CoR y x:=by first|exact CoR.refl _|exact coi bmq|exact cob (by simp_all)):∃y,f=some y/\CoR y x:=⟨y,h,c⟩
def l9{a b:Nat}(h:Nat.ble a b=true:=by exact rfl):a<=b:=bis h
def qcx{cl:Call}{f:FuncId}{fst caps args vs:List PC}{b:Bool}{res:PR}(hf:a6 P f)(hpure:aa P f args res)(hT:Reg P E nt ops L (st.after o.dst (some res.toH) []) fun T sf=>K (⟨i,⟨0,false,true,res,[],[],[]⟩,looks st.den o,c4 st.den o.dst [],none⟩::T) sf)(hi:ops[i]? = some o:=by exact rfl)(hw:ax ops st.den o=some gb:=by exact rfl)(hd:c7 nt o.dst=true:=by exact rfl)(ho:o.op=.call cl:=by exact rfl)(hc:callee (ev st.den) cl=some (f,fst,caps):=by exact rfl)(hv:iq st.den.o (ev st.den) cl.args.toList=some (p,vs,b):=by exact rfl)(hco:CoL (fst++(vs++caps)) args:=by exact CoL.refl _)(hb:(!b||res.flat)=true:=by exact rfl)(hg:gb=true:=by exact rfl)(hp:p:=by(try dsimp only)<;>((repeat' apply And.intro)<;>first|trivial|rfl|omega|assumption)):Reg P E nt ops (i::L) st K:=amz hi hw hd ho hc hv hf hpure hco hg hp hb hT
def wgx {f : FuncId} {fn : Func} (h : P.funcs[f]? = some fn) (h1 : (fn.name == "runtime.NumGoroutine") = false := by kernel_rfl) (h2 : fn.body.isNone = false := by kernel_rfl) : a6 P f := ⟨fn, h, h1, h2⟩
def aw8[Decidable p](h:decide p=true):p:=of_decide_eq_true h
def auv[Decidable p](h:decide p=false):¬p:=of_decide_eq_false h
def ty{n:Nat}:((n:Nat):Int).toNat=n:=bit n
end
end
def gy{ro:Option Nat}{nt id:Nat}{ops:Array Oper}{st:HSt}{Q:Exit->HSt->Prop}(h:Reg bnb cq nt ops (List.range ops.size) st fun _ sf=>Q .normal sf):HW (ro:=ro) bnb nt (.region id ops false) st Q:=af2 ca h
end Go.Hx
namespace Go.Hx
open Go.Proofs
section
variable {Q:Exit->HSt->Prop}
def sx7{ro:Option Nat}{nt id:Nat}{ops:Array Oper}{st:HSt}{y:Code}(h:Reg bnb cq nt ops (List.range ops.size) st fun _ sf=>b59 (ro:=ro) bnb nt y Q .normal sf):HW (ro:=ro) bnb nt (.seq (.region id ops false) y) st Q:=f4 (af2 ca h)
def hx8{ro:Option Nat}{P:Program}{E:Env}{nt:Nat}{st:HSt}{rs:List ResultVar}{res:List PC}{p q:Prop}{l:List HC}{vs:List PC}(hQ:Q .ret st=((Exit.ret=.normal\/Exit.ret=.ret)/\aai E st rs res))(h1:xj E st.den rs=some (p,l))(h2:ns st.den.o l=some (q,vs))(hc:CoL vs res)(hp:p:=by(repeat' apply And.intro)<;>first|trivial|exact bis rfl|rfl)(hq:q:=by(repeat' apply And.intro)<;>first|trivial|exact bis rfl|rfl):HW (ro:=ro) P nt .ret st Q:=abc (hQ▸⟨.inr rfl,p,l,q,vs,h1,hp,h2,hq,hc⟩)
end
end Go.Hx
namespace Go.Hx
open Go.Proofs
def tz1{p q:Prop}{d:Decidable p}(h:decide p=true)(e:p=q:=by first|(simp only[ty];done)|(simp only[ty];exact rfl)|exact rfl):q:=e▸of_decide_eq_true h
def tz2{p q:Prop}{d:Decidable p}(h:decide p=false)(e:(¬p)=q:=by first|(simp only[ty];done)|(simp only[ty];exact rfl)|exact rfl):q:=e▸of_decide_eq_false h
section
variable {ro:Option Nat}{P:Program}{nt:Nat}{st:HSt}{Q:Exit->HSt->Prop}{c:Operand}{x y:Code}{p q q':Prop}{d:Decidable p}
def hcd (ht:q->HW (ro:=ro) P nt x st Q) (hf:q'->HW (ro:=ro) P nt y st Q) (hc:ev st.den c=some (.v (.one (.p (.raw (.bool (@decide p d)))))):=by exact rfl) (e:p=q:=by first|(simp only[ty];done)|(simp only[ty];exact rfl)|exact rfl) (e':(¬p)=q':=by first|(simp only[ty];done)|(simp only[ty];exact rfl)|exact rfl):HW (ro:=ro) P nt (.cond c x y) st Q :=
 az _ hc (fun h=>ht (e▸of_decide_eq_true h)) (fun h=>hf (e'▸of_decide_eq_false h))
def hcn (ht:q'->HW (ro:=ro) P nt x st Q) (hf:q->HW (ro:=ro) P nt y st Q) (hc:ev st.den c=some (.v (.one (.p (.raw (.bool (!(@decide p d))))))):=by exact rfl) (e:p=q:=by first|(simp only[ty];done)|(simp only[ty];exact rfl)|exact rfl) (e':(¬p)=q':=by first|(simp only[ty];done)|(simp only[ty];exact rfl)|exact rfl):HW (ro:=ro) P nt (.cond c x y) st Q :=
 az _ hc (fun h=>ht (e'▸of_decide_eq_false (iu h))) (fun h=>hf (e▸of_decide_eq_true (iz h)))
def hcb{b:Bool}(ht:b=true->HW (ro:=ro) P nt x st Q)(hf:b=false->HW (ro:=ro) P nt y st Q)(hc:ev st.den c=some (.v (.one (.p (.raw (.bool b))))):=by exact rfl):HW (ro:=ro) P nt (.cond c x y) st Q:=az _ hc ht hf
def hcv {b:Bool} (ht:b=false->HW (ro:=ro) P nt x st Q) (hf:b=true->HW (ro:=ro) P nt y st Q) (hc:ev st.den c=some (.v (.one (.p (.raw (.bool (!b)))))):=by exact rfl):HW (ro:=ro) P nt (.cond c x y) st Q :=
 az _ hc (fun h=>ht (iu h)) (fun h=>hf (iz h))
def ka{x:HR}{r l:List (Nat×Option HR)}(d:Nat)(h:p8 r l)(e:b6 l d=some x:=by exact rfl):p8 ((d,some x)::r) l:=⟨⟨x,e,CoR.refl x⟩,h⟩
section
variable {l:List (Nat×Option ae)}
def kb{x:ae}{r:List (Nat×Option ae)}(d:Nat)(h:qd r l)(e:b6 l d=some x:=by exact rfl):qd ((d,some x)::r) l:=⟨⟨x,e,CoO.refl x⟩,h⟩
def kn{l:List (Nat×Option HR)}:p8 [] l:=trivial
def km:qd [] l:=trivial
variable {ko:List (Nat×Option ae)}{kt:List (Nat×Option HR)}{ι:Type}
def b7{body:Code}(hT:p8 kt st.t)(hO:qd ko st.o)(J:ι->HSt)(p:ι->Prop)(μ:ι->Nat)(i0:ι)(h0:p i0)(hs:Sub (J i0) st)(round:∀i,p i->HW (ro:=ro) P nt body ((J i).app ⟨kt,ko⟩) (afs (fun i=>(J i).app ⟨kt,ko⟩) p μ i Q)):HW (ro:=ro) P nt (.loop body) st Q:=ai1 ⟨kt,ko⟩ ⟨hT,hO⟩ J p μ i0 h0 hs round
def dn{x y:Code}(hT:p8 kt st.t)(hO:qd ko st.o)(J:ι->HSt)(p:ι->Prop)(h1:HW (ro:=ro) P nt x st (avr (fun i=>(J i).app ⟨kt,ko⟩) p Q))(h2:∀i,p i->HW (ro:=ro) P nt y ((J i).app ⟨kt,ko⟩) Q):HW (ro:=ro) P nt (.seq x y) st Q:=aiy ⟨kt,ko⟩ ⟨hT,hO⟩ J p h1 h2
def tt{p:Prop}(h:p:=by repeat (first|exact trivial|refine⟨⟨_,rfl,CoR.refl _⟩, ?_⟩|refine⟨⟨_,rfl,(by first|exact CoR.refl _|exact coi bmq|exact cob (by simp_all))⟩, ?_⟩)):p:=h
def uu{p:Prop}(h:p:=by repeat (first|exact trivial|refine⟨⟨_,rfl,CoO.refl _⟩, ?_⟩)):p:=h
def kk{a b:HSt}(h:p8 a.t b.t:=by exact tt)(h2:qd a.o b.o:=by exact uu):Sub a b:=⟨h,h2⟩
def bp{body:Code}(hT:p8 kt st.t)(hO:qd ko st.o)(J:Nat->HSt)(N:Nat)(hs:Sub (J 0) st)(round:∀i,i<=N->HW (ro:=ro) P nt body ((J i).app ⟨kt,ko⟩) (afs (fun i=>(J i).app ⟨kt,ko⟩) (fun i=>i<=N) (fun i=>N-i) i Q)):HW (ro:=ro) P nt (.loop body) st Q:=ai1 ⟨kt,ko⟩ ⟨hT,hO⟩ J (fun i=>i<=N) (fun i=>N-i) 0 (bio _) hs round
def be8 (S:HSt) (Q:Exit->HSt->Prop):Exit->HSt->Prop
 | .normal,st=>Sub S st
 |e,st=>Q e st
def aaz {x y:Code} (hT:p8 kt st.t) (hO:qd ko st.o) (J:HSt) (h1:HW (ro:=ro) P nt x st (be8 (J.app ⟨kt,ko⟩) Q)) (h2:HW (ro:=ro) P nt y (J.app ⟨kt,ko⟩) Q):HW (ro:=ro) P nt (.seq x y) st Q :=
 aiy (ι:=Unit) ⟨kt,ko⟩ ⟨hT,hO⟩ (fun _=>J) (fun _=>True) (amy h1 fun e st' h=>by cases e<;>first|exact⟨(),trivial,h⟩|exact h) fun _ _=>h2
def hcT(h:HW (ro:=ro) P nt x st Q)(hc:ev st.den c=some (.v (.one (.p (.raw (.bool true))))):=by exact rfl):HW (ro:=ro) P nt (.cond c x y) st Q:=az _ hc (fun _=>h) (fun e=>Bool.noConfusion e)
def hcF(h:HW (ro:=ro) P nt y st Q)(hc:ev st.den c=some (.v (.one (.p (.raw (.bool false))))):=by exact rfl):HW (ro:=ro) P nt (.cond c x y) st Q:=az _ hc (fun e=>Bool.noConfusion e) (fun _=>h)
def hrr{X:Prop}(h:X)(hQ:Q .ret st=((Exit.ret=.normal\/Exit.ret=.ret)/\X):=by exact rfl):HW (ro:=ro) P nt .ret st Q:=abc (hQ▸⟨.inr rfl,h⟩)
def hxr {E:Env} {rs:List ResultVar} {res:List PC} {p q:Prop} {l:List HC} {vs:List PC} (hc:CoL vs res) (hQ:Q .ret st=((Exit.ret=.normal\/Exit.ret=.ret)/\aai E st rs res):=by exact rfl) (h1:xj E st.den rs=some (p,l):=by exact rfl) (h2:ns st.den.o l=some (q,vs):=by exact rfl)
 (hp:p:=by(repeat' apply And.intro)<;>first|trivial|exact bis rfl|rfl) (hq:q:=by(repeat' apply And.intro)<;>first|trivial|exact bis rfl|rfl):HW (ro:=ro) P nt .ret st Q:=abc (hQ▸⟨.inr rfl,p,l,q,vs,h1,hp,h2,hq,hc⟩)
def kd{a b:Prop}(h:b)(k:a:=by kernel_rfl):a/\b:=⟨k,h⟩
def lpz{I:ι->HSt}{pp:ι->Prop}{μ:ι->Nat}{k:Nat}(i':ι)(hs:Sub (I i') st)(hp:pp i')(hm:μ i'<k:=by first|omega|(dsimp only;omega)):∃i',pp i'/\μ i'<k/\Sub (I i') st:=⟨i',hp,hm,hs⟩
def lpx{I:ι->HSt}{pp:ι->Prop}{μ:ι->Nat}{k:Nat}(i':ι)(hs:Sub (I i') st)(hp:pp i':=by first|trivial|(show _+1<=_;omega))(hm:μ i'<k:=by first|omega|(dsimp only;omega)):∃i',pp i'/\μ i'<k/\Sub (I i') st:=⟨i',hp,hm,hs⟩
end
end
def hpx{nt:Nat}{f:FuncId}{fn:Func}{body:Code}{args res:List PC}(hf:bnb.funcs[f]? = some fn)(h:HW (ro:=none) bnb nt body ⟨a2o 0 args,[]⟩ fun e st=>(e=.normal\/e=.ret)/\aai cq st fn.results.toList res)(hb:fn.body=some body:=by exact rfl)(hn:fn.ntmps=nt:=by exact rfl)(hl:args.length<=nt:=by exact bis rfl):aa bnb f args (ag res):=awa ca hf hb hn hl h
def hfx{nt:Nat}{f:FuncId}{fn:Func}{body:Code}{args:List HC}{o1 o2:List (Nat×ae)}{res:HR}{fx:List Nat}(hf:bnb.funcs[f]? = some fn)(h:HW (ro:=none) bnb nt body ⟨yj 0 args,a6g o1⟩ fun e st=>(e=.normal\/e=.ret)/\b5v cq st fn.results.toList res o2)(hb:fn.body=some body:=by exact rfl)(hn:fn.ntmps=nt:=by exact rfl)(hl:args.length<=nt:=by exact bis rfl)(hx:fx.all (Nat.ble 1000)=true:=by exact rfl):dv bnb f args o1 res o2 fx:=b18 ca hf hb hn hl hx h
def gd{ro:Option Nat}{nt id:Nat}{ops:Array Oper}{st:HSt}{Q:Exit->HSt->Prop}(h:Reg bnb cq nt ops (List.range ops.size) st fun T sf=>aao ops T=true/\Q .normal sf):HW (ro:=ro) bnb nt (.region id ops true) st Q:=b1h ca a3n _ h
section
variable {P:Program}{E:Env}{nt:Nat}{ops:Array Oper}{i:Nat}{o:Oper}{st:HSt}{L:List Nat}{K:List Tr->HSt->Prop}
def r9 (id:Nat) (wb:Bool) {u:App} {gb:Bool} (hT:Reg P E nt ops L (st.after o.dst (some u.val) [(u.id,some u.ob)]) fun T sf=>K (⟨i,⟨id,wb,true, .tup [],[u.id],if u.new then[id] else[],u.val.ids++u.ob.ids⟩,looks st.den o,c4 st.den o.dst [(u.id,some u.ob)],none⟩::T) sf)
 (hi:ops[i]? = some o:=by exact rfl) (hw:ax ops st.den o=some gb:=by exact rfl) (hd:c7 nt o.dst=true:=by exact rfl) (hq':hap E st.den.o (ev st.den) id wb o.op=some u:=by exact rfl) (hn:(!u.new||jx id st)=true:=by exact rfl) (hg:gb=true:=by exact rfl)
 (hp:u.pre:=by(try dsimp only)<;>((repeat' apply And.intro)<;>first|trivial|rfl|assumption|omega|(simp only[bit];omega)|(simp only[gw,c8];omega)|exact Or.inl rfl|exact Or.inr rfl|exact(fun _=>Or.inl rfl)|exact(fun _=>Or.inr (bis rfl))|exact bis rfl|(intro h;cases h;done))):Reg P E nt ops (i::L) st K:=a3x id wb hi hw hd hq' hn hg hp hT
def fc9 {cl:Call} {f:FuncId} {caps hcs:List HC} {args:List HC} {o1 o2:List (Nat×ae)} {res:HR} {fx:List Nat} {gb:Bool} (hf:a6 P f) (hfun:dv P f args o1 res o2 fx) (hsub:ah8 o1 st.den.o)
 (hT:Reg P E nt ops L (st.after o.dst (some res) (xx o1 o2)) fun T sf=>K (⟨i,⟨0,false,true, .tup [],keys o1++keys o2,ahu o1 o2 fx,res.ids++a8l o2⟩,looks st.den o,c4 st.den o.dst (xx o1 o2),none⟩::T) sf)
 (hi:ops[i]? = some o:=by exact rfl) (hw:ax ops st.den o=some gb:=by exact rfl) (hd:c7 nt o.dst=true:=by exact rfl) (ho:o.op=.call cl:=by exact rfl) (hc:so (ev st.den) cl=some (f,caps):=by exact rfl) (hv:po (ev st.den) cl.args.toList=some hcs:=by exact rfl) (hco:s7 (hcs++caps) args:=by exact s7.refl _) (hB:fcB o1 o2 res fx st=true:=by exact rfl) (hg:gb=true:=by exact rfl):Reg P E nt ops (i::L) st K:=sn hi hw hd ho hc hv hf hfun hco hsub hB hg hT
end
end Go.Hx
end
section
namespace Go.Hx
structure Hq (Q:Prop):Prop where
 v:Q
section
variable {P Q:Prop}
def w_1(hQ:Q)(h:Hq Q->P:=by intro h;(first|refine qy ?_|refine ce ?_|refine f4 ?_|refine gy ?_|refine s9 ?_|refine gd ?_|refine kd ?_|refine hcT ?_|refine hcF ?_|refine eu ?_|refine abc ?_|refine a9b ?_|refine eg ?_);exact h.v):P:=h ⟨hQ⟩
def w_2(hQ:Q)(h:Hq Q->P:=by intro h;(iterate 2 refine w_1 ?_);exact h.v):P:=h ⟨hQ⟩
def w_3(hQ:Q)(h:Hq Q->P:=by intro h;(iterate 3 refine w_1 ?_);exact h.v):P:=h ⟨hQ⟩
def w_4(hQ:Q)(h:Hq Q->P:=by intro h;(iterate 4 refine w_1 ?_);exact h.v):P:=h ⟨hQ⟩
def w_5(hQ:Q)(h:Hq Q->P:=by intro h;(iterate 5 refine w_1 ?_);exact h.v):P:=h ⟨hQ⟩
def w_6(hQ:Q)(h:Hq Q->P:=by intro h;(iterate 6 refine w_1 ?_);exact h.v):P:=h ⟨hQ⟩
def w_7(hQ:Q)(h:Hq Q->P:=by intro h;(iterate 7 refine w_1 ?_);exact h.v):P:=h ⟨hQ⟩
def w_8(hQ:Q)(h:Hq Q->P:=by intro h;(iterate 8 refine w_1 ?_);exact h.v):P:=h ⟨hQ⟩
def w_9(hQ:Q)(h:Hq Q->P:=by intro h;(iterate 9 refine w_1 ?_);exact h.v):P:=h ⟨hQ⟩
def db(hQ:Q)(h:Hq Q->P:=by intro h;(iterate 10 refine w_1 ?_);exact h.v):P:=h ⟨hQ⟩
def ip(hQ:Q)(h:Hq Q->P:=by intro h;(iterate 11 refine w_1 ?_);exact h.v):P:=h ⟨hQ⟩
def gz(hQ:Q)(h:Hq Q->P:=by intro h;(iterate 12 refine w_1 ?_);exact h.v):P:=h ⟨hQ⟩
def kg(hQ:Q)(h:Hq Q->P:=by intro h;(iterate 13 refine w_1 ?_);exact h.v):P:=h ⟨hQ⟩
def mf(hQ:Q)(h:Hq Q->P:=by intro h;(iterate 14 refine w_1 ?_);exact h.v):P:=h ⟨hQ⟩
def ic(hQ:Q)(h:Hq Q->P:=by intro h;(iterate 15 refine w_1 ?_);exact h.v):P:=h ⟨hQ⟩
def xk(hQ:Q)(h:Hq Q->P:=by intro h;(iterate 16 refine w_1 ?_);exact h.v):P:=h ⟨hQ⟩
def za(hQ:Q)(h:Hq Q->P:=by intro h;(iterate 17 refine w_1 ?_);exact h.v):P:=h ⟨hQ⟩
def a4m(hQ:Q)(h:Hq Q->P:=by intro h;(iterate 18 refine w_1 ?_);exact h.v):P:=h ⟨hQ⟩
def b58(hQ:Q)(h:Hq Q->P:=by intro h;(iterate 19 refine w_1 ?_);exact h.v):P:=h ⟨hQ⟩
def akm(hQ:Q)(h:Hq Q->P:=by intro h;(iterate 20 refine w_1 ?_);exact h.v):P:=h ⟨hQ⟩
def ay2(hQ:Q)(h:Hq Q->P:=by intro h;(iterate 21 refine w_1 ?_);exact h.v):P:=h ⟨hQ⟩
def avg(hQ:Q)(h:Hq Q->P:=by intro h;(iterate 22 refine w_1 ?_);exact h.v):P:=h ⟨hQ⟩
def aw7(hQ:Q)(h:Hq Q->P:=by intro h;(iterate 23 refine w_1 ?_);exact h.v):P:=h ⟨hQ⟩
def bf6(hQ:Q)(h:Hq Q->P:=by intro h;(iterate 25 refine w_1 ?_);exact h.v):P:=h ⟨hQ⟩
def bf4(hQ:Q)(h:Hq Q->P:=by intro h;(iterate 26 refine w_1 ?_);exact h.v):P:=h ⟨hQ⟩
def bec(hQ:Q)(h:Hq Q->P:=by intro h;(iterate 27 refine w_1 ?_);exact h.v):P:=h ⟨hQ⟩
def beu(hQ:Q)(h:Hq Q->P:=by intro h;(iterate 28 refine w_1 ?_);exact h.v):P:=h ⟨hQ⟩
def b6p(hQ:Q)(h:Hq Q->P:=by intro h;(iterate 29 refine w_1 ?_);exact h.v):P:=h ⟨hQ⟩
def bf3(hQ:Q)(h:Hq Q->P:=by intro h;(iterate 32 refine w_1 ?_);exact h.v):P:=h ⟨hQ⟩
end
end Go.Hx
end
section
namespace Go.Hx
theorem v_2{P Q:Prop}(hQ:Q)(h:Hq Q->P:=by intro h;(iterate 2 refine w_1 ?_);refine hxr ?_;exact h.v):P:=h ⟨hQ⟩
theorem v_3{P Q:Prop}(hQ:Q)(h:Hq Q->P:=by intro h;(iterate 3 refine w_1 ?_);refine hxr ?_;exact h.v):P:=h ⟨hQ⟩
theorem v_4{P Q:Prop}(hQ:Q)(h:Hq Q->P:=by intro h;(iterate 4 refine w_1 ?_);refine hxr ?_;exact h.v):P:=h ⟨hQ⟩
theorem v_5{P Q:Prop}(hQ:Q)(h:Hq Q->P:=by intro h;(iterate 5 refine w_1 ?_);refine hxr ?_;exact h.v):P:=h ⟨hQ⟩
theorem v_6{P Q:Prop}(hQ:Q)(h:Hq Q->P:=by intro h;(iterate 6 refine w_1 ?_);refine hxr ?_;exact h.v):P:=h ⟨hQ⟩
theorem v_7{P Q:Prop}(hQ:Q)(h:Hq Q->P:=by intro h;(iterate 7 refine w_1 ?_);refine hxr ?_;exact h.v):P:=h ⟨hQ⟩
theorem v_8{P Q:Prop}(hQ:Q)(h:Hq Q->P:=by intro h;(iterate 8 refine w_1 ?_);refine hxr ?_;exact h.v):P:=h ⟨hQ⟩
theorem v_9{P Q:Prop}(hQ:Q)(h:Hq Q->P:=by intro h;(iterate 9 refine w_1 ?_);refine hxr ?_;exact h.v):P:=h ⟨hQ⟩
end Go.Hx
end
namespace Go.Hx
section
open Go.Proofs Go.Lib Go.RowKit
def b6b (w:World) (o:Obj) {r:Nat} (h:r<w.heap.size):(w.alloc o).heap[r]? = w.heap[r]?:=by
 show(w.heap.push o)[r]? = _;rw[Array.getElem?_push_lt h,bko h]
def bi5(k:Nat)(xs vs:List Value):List Value:=xs.take k++vs++xs.drop k
structure bfe (w w':World) (T s:Nat) (own v:Value) (n:Nat) (xs:List Value):Prop where
 row:w'.ownsRow 0 T s v (n+1) xs
 bl:Below 0 w w'
 out:∀g,g<w.heap.size->c6 own≠some g->w'.heap[g]? = w.heap[g]?
 at_:∀g,c6 v=some g->w.heap.size<=g\/c6 own=some g
def bi9(i:Nat)(F G:Nat->Nat->PV):Nat->Nat->PV:=fun k j=>if k<i then F k j else if k=i then G 0 j else F (k-1) j
def l6{id q:Nat}{x ob:ae}(h:lk [(q,x)] id=some ob):id=q/\ob=x:=by
 simp only[lk]at h;by_cases hk:q=id
 · subst hk
   simp at h;exact⟨rfl,h.symm⟩
 have:Nat.beq q id=false:=by
  rw[bj5];exact fun hb=>hk (bjh hb)
 rw[this]at h;cases h
structure bh0 (c:Ctx) (w w':World) (T s a:Nat) (v:Value) (n:Nat) (ys:List Value):Prop where
 row:w'.ownsRow 0 T s v (n+1) ys
 bl:Below 0 w w'
 out:∀g,g<w.heap.size->¬c.blk a g->w'.heap[g]? = w.heap[g]?
 at_:∀g,c6 v=some g->w.heap.size<=g\/c.blk a g
def axh{P:Program}{f:FuncId}{T s a:Nat}{y:Value}{F:Nat->Nat->PV}(hs:0<s)
 (h:∀(w:World) (ad:Option Addr),Calls P f #[.slice ad 0 0,y] w fun e w'=>∃v,e=.returned v/\Below w.heap.size w w'/\(v=.slice ad 0 0\/w'.ownsRow 0 T s v 0 []/\∀g,c6 v=some g->w.heap.size<=g)) :
 dv P f [.one (.p (k6 (.slice none 0 0))), .one (.p (.raw y))] [] (.v (.one (.ref a 0))) [(a, .arr true s T 0 F)] []:=by
 intro w c us hM hrep
 obtain ⟨ad,rfl⟩:∃ad,us=[.slice ad 0 0,y]:=by
  match us,hrep with
  | [u0,u1],⟨h0,h1,_⟩ =>
   obtain⟨ad,cap,hv,_,_,hc,_⟩:=h0;obtain rfl:cap=0:=hc rfl;exact⟨ad,by rw[hv,show u1=y from h1.1]⟩
 refine(h w ad).mono ?_;rintro e w' ⟨v,rfl,hb,hor⟩;have la:lk [(a,ae.arr true s T 0 F)] a=some (.arr true s T 0 F):=by simp[lk]
 have him:∀q ob,c.imm q=some ob->q<w.heap.size:=fun q ob hq=>(biu.1 (hM.imm q ob hq)).1
 have hform:v.oneCell'=true:=by
  rcases hor with rfl|⟨hrow,_⟩
  · rfl
  rcases hrow.2 with⟨hv,_⟩|⟨g,cap,cur,hv,_⟩<;>(subst hv;rfl)
 have hbk:∃bk:Nat->Prop,(∀g,bk g->w.heap.size<=g)/\(bk=dx v/\w'.ownsRow 0 T s v 0 []\/bk=noB/\aq c.imm (.sl 0 s true F) v):=by
  rcases hor with rfl|⟨hrow,hat⟩
  · exact⟨noB,fun g hg=>hg.elim, .inr ⟨rfl,ad,0,rfl,bil _,bio _,fun _=>rfl,fun h=>absurd h (bl7 0)⟩⟩
  exact⟨dx v,hat, .inl ⟨rfl,hrow⟩⟩
 obtain⟨bk,hat,hok⟩:=hbk;refine⟨v,{ c with own:=fun q=>if q=a then v else c.own q,blk:=fun q=>if q=a then bk else c.blk q },rfl,⟨hform,fun l hl=>(by cases(l6 hl).2),fun ob s1 e1 n1 ho1 hd=>?_⟩,⟨fun id ob hl=>?_,fun id id' ob ob' q hl hl' _ _=>by rw[(l6 hl).1,(l6 hl').1],fun q ob hq=>(hb.block q (him q ob hq)).trans (hM.imm q ob hq),fun id ob q hl hq=>?_⟩,⟨hb.os,hb.tape,hb.output,hb.size,fun k hk=>absurd hk (bip k),hb.drawn⟩,fun q hq _=>⟨hb.block q hq,rfl⟩,fun id ob q hl hq=>?_,fun id hid=>absurd hid bmu⟩
 · obtain ⟨_,rfl⟩:=l6 ho1
   simp only[ae.dim,bij,bim]at hd;obtain⟨rfl,rfl,rfl⟩:=hd;exact⟨bil _,fun _=>by simp⟩
 · obtain ⟨rfl,rfl⟩:=l6 hl
   rcases hok with⟨h1,h2⟩|⟨h1,h2⟩
   · exact⟨hs,bio _, .inl ⟨by simpa using h1,[],by simpa using h2,fun i j hi=>by omega⟩⟩
   exact⟨hs,bio _, .inr ⟨.inr rfl,by simpa using h1,by simpa using h2⟩⟩
 · obtain ⟨rfl,_⟩:=l6 hl
   have hq':bk q:=by simpa using hq
   show c.imm q=none
   cases hc:c.imm q with
   |none=>rfl
   |some ob=>have:=him q ob hc;have:=hat q hq';omega
 obtain⟨rfl,_⟩:=l6 hl;have hq':bk q:=by simpa using hq
 exact .inl (hat q hq')
def HE(nt:Nat)(st:HSt)(Q:HSt->Prop):Prop:=∀w0 m0 a w,Rel w0 m0 nt st.den a w->∃st':HSt,Q st'/\Rel w0 m0 nt st'.den a w
def fu{nt:Nat}{st:HSt}{Q:HSt->Prop}(h:Q st):HE nt st Q:=fun _ _ _ _ hr=>⟨st,h,hr⟩
def ajv {ro:Option Nat} {P:Program} {nt:Nat} {c:Code} {st:HSt} {Q:Exit->HSt->Prop} (h:HW (ro:=ro) P nt c st fun e s1=>HE nt s1 (Q e)):HW (ro:=ro) P nt c st Q:=fun w0 m0 a w hr=>by
 refine wpIn_mono (h w0 m0 a w hr) ?_;rintro e a' w' ⟨s1,h1,h2⟩;exact h1 w0 m0 a' w' h2
end
section
open Go.RowKit
abbrev AS:=BitVec 32
abbrev asI(s:AS):Int:=(s.toNat:Int)
def asC(s:AS):PV:=.raw (.int .u32 (asI s))
def aim{n:Int}(h0:0<=n)(h1:n<4294967296):IntKind.wrap .u32 n=n:=qb (by simp only[inR,j9,jv];omega)
def a08 (s:AS):asI s<4294967296:=by
 have:=s.isLt;unfold asI;omega
def oi(s:AS):0<=asI s:=bjp _
def qn (s:AS):BitVec.ofInt 32 (asI s)=s:=by
 unfold asI;rw[BitVec.ofInt_natCast,BitVec.ofNat_toNat,BitVec.setWidth_eq]
def dq {a b:AS}:asI a=asI b<->a=b:=by
 unfold asI;rw[Int.ofNat_inj];exact BitVec.toNat_inj
def a9e(s:AS):IntKind.wrap .u32 (s.toNat:Int)=asI s:=aim (oi s) (a08 s)
def z8 (a b:AS):d6 .and .u32 (asI a) (asI b)=asI (a&&&b):=by
 show IntKind.wrap .u32 ((BitVec.ofInt 32 (asI a)&&&BitVec.ofInt 32 (asI b)).toNat:Int)=_;rw[qn,qn,a9e]
def bOr (a b:AS):d6 .or .u32 (asI a) (asI b)=asI (a|||b):=by
 show IntKind.wrap .u32 ((BitVec.ofInt 32 (asI a)|||BitVec.ofInt 32 (asI b)).toNat:Int)=_;rw[qn,qn,a9e]
def apz (a b:AS):d6 .andNot .u32 (asI a) (asI b)=asI (a&&&~~~b):=by
 show IntKind.wrap .u32 ((BitVec.ofInt 32 (asI a)&&&~~~BitVec.ofInt 32 (asI b)).toNat:Int)=_;rw[qn,qn,a9e]
def agd (a:AS) (n:Nat):(asI a).fdiv (2^(min n 32))=asI (a>>>n):=by
 have e:(2:Int)^(min n 32)=((2^(min n 32):Nat):Int):=by rw[Int.natCast_pow];rfl
 rw[e];unfold asI;rw[bkb _ (bjp _),<- bli,bl3,bky];by_cases h:n<=32
 · rw[bjw h]
 rw[Nat.min_eq_right bmq];have h1:=a.isLt;have h2:2^32<=2^n:=bkv bmq bmq;rw[bm2 bmq,bm2 (bl0 bmq h2)]
def ze (a:AS) (n:Nat):IntKind.wrap .u32 (asI a*2^(min n 32))=asI (a<<<n):=by
 have e:asI a*(2:Int)^(min n 32)=((a.toNat*2^(min n 32):Nat):Int):=by rw[bks,Int.natCast_pow];rfl
 rw[e]
 have hw:∀m:Nat,IntKind.wrap .u32 (m:Int)=((m%4294967296:Nat):Int):=by
  intro m;simp[IntKind.wrap,IntKind.signed,IntKind.bits]
 rw[hw];unfold asI;rw[BitVec.toNat_shiftLeft,Nat.shiftLeft_eq];by_cases h:n<=32
 · rw[bjw h]
 rw[Nat.min_eq_right bmq];have h1:a.toNat*2^32%2^32=0:=Nat.mul_mod_left _ _
 have h2:a.toNat*2^n%2^32=0:=by
  obtain⟨k,rfl⟩:∃k,n=k+32:=⟨n-32,by omega⟩;rw[Nat.pow_add,<- Nat.mul_assoc];exact Nat.mul_mod_left _ _
 have h1:a.toNat*2^32%4294967296=0:=h1;rw[h1,h2]
end
section
structure Fd where
 lhs:AS
 rhs:AS
instance:Inhabited Fd:=⟨⟨0,0⟩⟩
theorem Fd.eq_iff{a b:Fd}:a=b<->a.lhs=b.lhs/\a.rhs=b.rhs:=by cases a;cases b;simp
instance:DecidableEq Fd:=fun a b=>decidable_of_iff _ (Fd.eq_iff (a:=a) (b:=b)).symm
def Fd.c (x:Fd):Nat->PV
 |0=>asC x.lhs
 |1=>asC x.rhs
 |_=>.any
def sub(a b:AS):Prop:=a&&&~~~b=0
instance:DecidablePred fun p:AS×AS=>sub p.1 p.2:=fun p=>inferInstanceAs (Decidable (_=_))
instance {a b:AS}:Decidable (sub a b):=inferInstanceAs (Decidable (_=_))
section
variable {a b:AS}
def er:sub a b<->∀i,i<32->a.getLsbD i=true->b.getLsbD i=true:=by
 unfold sub;constructor
 · intro h i hi ha
   have:=congrArg (fun x:AS=>x.getLsbD i) h;simp only[bk6,bmd,hi,ha,decide_true,Bool.true_and]at this;simpa using this
 intro h;apply bke;intro i hi;have:=h i hi;simp only[bk6,bmd,hi,decide_true,Bool.true_and];cases ha:a.getLsbD i<;>cases hb:b.getLsbD i<;>simp_all
def oe(a:AS):sub a a:=er.2 fun _ _ h=>h
def uo{c:AS}(h:sub a b)(k:sub b c):sub a c:=er.2 fun i hi ha=>er.1 k i hi (er.1 h i hi ha)
def a8u:sub a (a|||b):=er.2 fun i hi ha=>by simp[ha]
def a91:sub b (a|||b):=er.2 fun i hi ha=>by simp[ha]
def aam {c:AS} (h:sub a c) (k:sub b c):sub (a|||b) c:=er.2 fun i hi ha=>by
 rw[bl5,bjx]at ha
 rcases ha with ha|ha
 · exact er.1 h i hi ha
 exact er.1 k i hi ha
def nx (h:sub a b) (k:sub b a):a=b:=by
 apply bke;intro i hi;have h1:=er.1 h i hi;have h2:=er.1 k i hi;cases ha:a.getLsbD i<;>cases hb:b.getLsbD i<;>simp_all
def b7f (h:sub a b):a.toNat<=b.toNat:=by
 have e:a|||b=b:=nx (aam h (oe b)) a91
 have:a.toNat<=(a|||b).toNat:=by rw[BitVec.toNat_or];exact Nat.left_le_or
 rwa [e]at this
def a0f (h:sub a b) (hne:a≠b):a.toNat<b.toNat:=by
 rcases Nat.lt_or_eq_of_le (b7f h)with h|h
 · exact h
 exact absurd (bk7 h) hne
def fv(s:AS)(f:Fd):AS:=if sub f.lhs s then s|||f.rhs else s
def dy(l:List Fd)(s:AS):AS:=l.foldl fv s
variable {s:AS}
def aa7 {f:Fd}:sub s (fv s f):=by
 unfold fv;split
 · exact a8u
 exact oe s
def o8:∀{l:List Fd} {s:AS},sub s (dy l s)
 | [],s=>oe s
 |f::l,s=>uo aa7 (o8 (l:=l) (s:=fv s f))
def clF (l:List Fd):Nat->AS->AS
 |0,s=>s
 |n+1,s=>if dy l s=s then s else clF l n (dy l s)
def clo(l:List Fd)(s:AS):AS:=clF l 4294967296 s
variable {l:List Fd}
def ai9:∀{n m:Nat} {s:AS},4294967296-s.toNat<=n->4294967296-s.toNat<=m->clF l n s=clF l m s
 |0,m,s,hn,hm=>by have:=s.isLt;omega
 |n+1,0,s,hn,hm=>by have:=s.isLt;omega
 | n+1,m+1,s,hn,hm=>by
  unfold clF;split
  · rfl
  rename_i hne;have:=a0f (o8 (l:=l) (s:=s)) (fun e=>hne e.symm);exact ai9 bmq bmq
def b4b (h:dy l s=s):clo l s=s:=by
 show clF l (4294967295+1) s=s;unfold clF;rw[if_pos h]
def axo:clo l (dy l s)=clo l s:=by
 by_cases h:dy l s=s
 · rw[h]
 have e:clo l s=clF l 4294967295 (dy l s):=by
  show clF l (4294967295+1) s=_;rw[clF,if_neg h]
 rw[e];have:=a0f (o8 (l:=l) (s:=s)) (fun e=>h e.symm);exact ai9 bmq bmq
def a9m:∀{n:Nat} {s:AS},4294967296-s.toNat<=n->dy l (clF l n s)=clF l n s
 |0,s,hn=>by have:=s.isLt;omega
 | n+1,s,hn=>by
  unfold clF;split
  · assumption
  rename_i hne;have:=a0f (o8 (l:=l) (s:=s)) (fun e=>hne e.symm);exact a9m bmq
def apq:dy l (clo l s)=clo l s:=a9m bmq
def atq:∀{n:Nat} {s:AS},sub s (clF l n s)
 |0,s=>oe s
 | n+1,s=>by
  unfold clF;split
  · exact oe s
  exact uo o8 atq
def akc:sub s (clo l s):=atq
def qs(l:List Fd)(s:AS):Prop:=∀f∈l,sub f.lhs s->sub f.rhs s
def v6:∀{l:List Fd} {s:AS},dy l s=s<->qs l s
 | [],s=>⟨fun _ f hf=>(by cases hf),fun _=>rfl⟩
 | f :: l,s=>by
  constructor
  · intro h
    have h1:fv s f=s:=nx (by have:=o8 (l:=l) (s:=fv s f);rw[show dy l (fv s f)=s from h]at this;exact this) aa7
    have h2:dy l s=s:=by
     have:dy l (fv s f)=s:=h;rwa [h1]at this
    intro g hg
    rcases biv.1 hg with rfl|hg
    · intro hl
      rw[fv,if_pos hl]at h1;rw[<- h1];exact a91
    exact v6.1 h2 g hg
  intro h
  have h1:fv s f=s:=by
   unfold fv;split
   · rename_i hl
     exact nx (aam (oe s) (h f (bj6 ..) hl)) a8u
   rfl
  show dy l (fv s f)=s;rw[h1];exact v6.2 fun g hg=>h g (bj0 _ hg)
def aah:∀{l:List Fd} {s t:AS},qs l t->sub s t->sub (dy l s) t
 | [],s,t,_,h=>h
 | f :: l,s,t,ht,h=>aah (l:=l) (fun g hg=>ht g (bj0 _ hg)) (by
  unfold fv;split
  · rename_i hl
    exact aam h (ht f (bj6 ..) (uo hl h))
  exact h)
def anl {t:AS} (ht:qs l t):∀{n:Nat} {s:AS},sub s t->sub (clF l n s) t
 |0,s,h=>h
 | n+1,s,h=>by
  unfold clF;split
  · exact h
  exact anl ht (aah ht h)
def a3b{t:AS}(ht:qs l t)(h:sub s t):sub (clo l s) t:=anl ht h
def a3d:qs l (clo l s):=v6.1 apq
end
end
section
abbrev pI(a:Int):PC:=.one (.raw (.int .i64 a))
abbrev pB(b:Bool):PC:=.one (.raw (.bool b))
abbrev pP(x:PV):PC:=.one x
abbrev pA(s:AS):PC:=.one (.raw (.int .u32 (asI s)))
abbrev fdl(l:List Fd):PV:=psl 2 Fd.c l
abbrev asl(l:List AS):PV:=psl 1 (fun s _=>asC s) l
abbrev vI(a:Int):HR:=bo (.raw (.int .i64 a))
abbrev vA(s:AS):HR:=bo (.raw (.int .u32 (asI s)))
def ase {l:List Fd} {s:AS} {i:Nat} (hi:i<l.length):dy (l.take (i+1)) s=fv (dy (l.take i) s) (l.getD i default):=by
 unfold dy;rw[List.take_succ,bik hi,bj8,bir,bik hi];rfl
def gh {a b:AS}:d6 .andNot .u32 (asI a) (asI b)=0<->sub a b:=by
 rw[apz,show(0:Int)=asI 0 from rfl,dq];exact Iff.rfl
def b73 {S:AS} {f:Fd} (h:d6 .andNot .u32 (asI f.lhs) (asI S)=0):d6 .or .u32 (asI S) (asI f.rhs)=asI (fv S f):=by
 rw[bOr,fv,if_pos (gh.1 h)]
def ba9{S:AS}{f:Fd}(h:¬d6 .andNot .u32 (asI f.lhs) (asI S)=0):fv S f=S:=if_neg fun e=>h (gh.2 e)
def inU(n:Int)(f:Fd):Bool:=decide ((f.lhs|||f.rhs)>>>n.toNat=0)
def cg(n:Int)(l:List Fd):Int:=if n<0\/16<n then 7 else if 64<l.length then 3 else if l.all (inU n)=true then 0 else 1
def ans {n:Int} {f:Fd}:(d6 .or .u32 (asI f.lhs) (asI f.rhs)).fdiv (2^(min n.toNat 32))=0<->inU n f=true:=by
 rw[bOr,agd,show(0:Int)=asI 0 from rfl,dq];unfold inU;rw[decide_eq_true_iff]
def nk {k:IntKind} {a b:Int} (h:a=b):CoR (bo (.raw (.int k a))) (bo (.raw (.int k b))):=by
 rw[h];exact CoR.refl _
def pk(n:Nat):AS:=(List.range n).foldl (fun s i=>s|||((1:AS)<<<i)) 0
def aj(n:Int):AS:=pk (min n.toNat 32)
def abj (i:Nat):pk (i+1)=pk i|||((1:AS)<<<i):=by
 unfold pk;rw[bjj,bj8];rfl
def arx (i:Nat):d6 .or .u32 (asI (pk i)) (IntKind.wrap .u32 (1*2^(min i 32)))=asI (pk (i+1)):=by
 have e:IntKind.wrap .u32 (1*2^(min i 32))=asI ((1:AS)<<<i):=ze 1 i;rw[e,bOr,abj]
end
section
abbrev pU8(a:Int):PC:=.one (.raw (.int .u8 a))
abbrev pS(s:ByteArray):PC:=.one (.raw (.string s))
abbrev vU8(a:Int):HR:=bo (.raw (.int .u8 a))
abbrev vB(b:Bool):HR:=bo (.raw (.bool b))
abbrev vS(s:ByteArray):HR:=bo (.raw (.string s))
abbrev vP(x:PV):HR:=bo x
abbrev Lim:Nat:=68719476736
structure Val where
 kind:Int
 num:Int
 str:ByteArray
instance:Inhabited Val:=⟨⟨0,0,⟨#[]⟩⟩⟩
theorem Val.eq_iff{a b:Val}:a=b<->a.kind=b.kind/\a.num=b.num/\a.str=b.str:=by cases a;cases b;simp
instance:DecidableEq Val:=fun a b=>decidable_of_iff _ (Val.eq_iff (a:=a) (b:=b)).symm
def Val.c (v:Val):Nat->PV
 |0=>.raw (.int .i64 v.kind)
 |1=>.raw (.int .i64 v.num)
 |2=>.raw (.string v.str)
 |_=>.any
abbrev vals(l:List Val):PV:=psl 3 Val.c l
abbrev Val.pc(v:Val):PC:=.agg [v.c 0,v.c 1,v.c 2]
structure Row where
 id:Int
 vals:List Val
instance:Inhabited Row:=⟨⟨0,[]⟩⟩
theorem Row.eq_iff{a b:Row}:a=b<->a.id=b.id/\a.vals=b.vals:=by cases a;cases b;simp
instance:DecidableEq Row:=fun a b=>decidable_of_iff _ (Row.eq_iff (a:=a) (b:=b)).symm
def Row.c (r:Row):Nat->PV
 |0=>.raw (.int .i64 r.id)
 |1=>Hx.vals r.vals
 |_=>.any
abbrev rows(l:List Row):PV:=psl 2 Row.c l
abbrev Row.pc(r:Row):PC:=.agg [r.c 0,r.c 1]
def a8q (s:ByteArray):Nat->PV
 |0=>.raw (.string s)
 |_=>.any
instance:Inhabited ByteArray:=⟨⟨#[]⟩⟩
abbrev a3t(l:List ByteArray):PV:=psl 1 a8q l
def b68 (s:UInt8):Nat->PV
 |0=>.raw (.int .u8 (s.toNat:Int))
 |_=>.any
abbrev u8s(l:List UInt8):PV:=psl 1 b68 l
def avz (l:List UInt8):Nat->PV
 |0=>u8s l
 |_=>.any
abbrev bdm(l:List (List UInt8)):PV:=psl 1 avz l
structure Tbl where
 name:ByteArray
 attrs:List ByteArray
 rows:List Row
instance:Inhabited Tbl:=⟨⟨⟨#[]⟩,[],[]⟩⟩
theorem Tbl.eq_iff{a b:Tbl}:a=b<->a.name=b.name/\a.attrs=b.attrs/\a.rows=b.rows:=by cases a;cases b;simp
instance:DecidableEq Tbl:=fun a b=>decidable_of_iff _ (Tbl.eq_iff (a:=a) (b:=b)).symm
def Tbl.c (t:Tbl):Nat->PV
 |0=>.raw (.string t.name)
 |1=>a3t t.attrs
 |2=>Hx.rows t.rows
 |_=>.any
abbrev beh(l:List Tbl):PV:=psl 3 Tbl.c l
abbrev Tbl.pc(t:Tbl):PC:=.agg [t.c 0,t.c 1,t.c 2]
abbrev DB:=List Tbl
abbrev bgx(d:DB):PC:=.agg [beh d]
structure Chg where
 kind:Int
 name:ByteArray
 table:Tbl
 row:Row
 attr:Int
 value:Val
instance:Inhabited Chg:=⟨⟨0,⟨#[]⟩,default,default,0,default⟩⟩
theorem Chg.eq_iff{a b:Chg}:a=b<->a.kind=b.kind/\a.name=b.name/\a.table=b.table/\a.row=b.row/\a.attr=b.attr/\a.value=b.value:=by cases a;cases b;simp
instance:DecidableEq Chg:=fun a b=>decidable_of_iff _ (Chg.eq_iff (a:=a) (b:=b)).symm
def Chg.c (x:Chg):Nat->PV
 |0=>.raw (.int .i64 x.kind)
 |1=>.raw (.string x.name)
 |2=>x.table.c 0
 |3=>x.table.c 1
 |4=>x.table.c 2
 |5=>x.row.c 0
 |6=>x.row.c 1
 |7=>.raw (.int .i64 x.attr)
 |8=>x.value.c 0
 |9=>x.value.c 1
 |10=>x.value.c 2
 |_=>.any
abbrev b6u(l:List Chg):PV:=psl 11 Chg.c l
abbrev Chg.pc(x:Chg):PC:=.agg [x.c 0,x.c 1,x.c 2,x.c 3,x.c 4,x.c 5,x.c 6,x.c 7,x.c 8,x.c 9,x.c 10]
def txC (l:List Chg):Nat->PV
 |0=>b6u l
 |_=>.any
abbrev txs(l:List (List Chg)):PV:=psl 1 txC l
structure ji where
 attrs:UInt8
 gap:UInt8
 rows:List (List UInt8)
instance:Inhabited ji:=⟨⟨0,0,[]⟩⟩
def ji.c (x:ji):Nat->PV
 |0=>.raw (.int .u8 (x.attrs.toNat:Int))
 |1=>.raw (.int .u8 (x.gap.toNat:Int))
 |2=>bdm x.rows
 |_=>.any
abbrev ji.pc(x:ji):PC:=.agg [x.c 0,x.c 1,x.c 2]
structure Opn where
 kind:UInt8
 name:UInt8
 t:ji
 id:Int
 vals:List UInt8
 attr:Int
 value:UInt8
instance:Inhabited Opn:=⟨⟨0,0,default,0,[],0,0⟩⟩
def Opn.c (x:Opn):Nat->PV
 |0=>.raw (.int .u8 (x.kind.toNat:Int))
 |1=>.raw (.int .u8 (x.name.toNat:Int))
 |2=>x.t.c 0
 |3=>x.t.c 1
 |4=>x.t.c 2
 |5=>.raw (.int .i64 x.id)
 |6=>u8s x.vals
 |7=>.raw (.int .i64 x.attr)
 |8=>.raw (.int .u8 (x.value.toNat:Int))
 |_=>.any
abbrev Opn.pc(x:Opn):PC:=.agg [x.c 0,x.c 1,x.c 2,x.c 3,x.c 4,x.c 5,x.c 6,x.c 7,x.c 8]
abbrev bhg(l:List Opn):PV:=psl 9 Opn.c l
structure Stt where
 done:List (List Chg)
 undone:List (List Chg)
 opn:Bool
 now:List Chg
instance:Inhabited Stt:=⟨⟨[],[],false,[]⟩⟩
def Stt.c (x:Stt):Nat->PV
 |0=>txs x.done
 |1=>txs x.undone
 |2=>.raw (.bool x.opn)
 |3=>b6u x.now
 |_=>.any
abbrev Stt.pc(x:Stt):PC:=.agg [x.c 0,x.c 1,x.c 2,x.c 3]
def ah{α:Type}[Inhabited α](l:List α)(i:Nat)(h:i<l.length):l.getD i default=l[i]:=by simp[List.getD,bik h]
end
section
open Go.Proofs
def am5:a6 bnb 128:=wgx Tryz.func128
def bmr{p:Prop}(h:p:=by assumption):p:=h
def ar8(l:List Fd)(s0:AS):aa bnb 128 [pP (fdl l),pA s0] (ag [pA (clo l s0)]):=by
 refine hpx (nt:=29) Tryz.func128 ?_;refine f4 ?_;refine j4 0 rfl fun hlen=>?_;refine w_4 ?_;refine b7 (ι:=AS) (ka 0 kn) km (fun s=>⟨[(1,some (vA s))],[]⟩) (fun s=>clo l s=clo l s0) (fun s=>4294967296-s.toNat) (s0) (rfl) kk ?_;rintro s hs;refine mf ?_;refine bp (ka 0 (ka 5 (ka 9 (ka 10 kn)))) km (fun i=>⟨[(11,some (vI i)),(1,some (vA (dy (l.take i) s)))],[]⟩) l.length kk ?_;rintro i hi;refine w_5 ?_;refine hcd ?_ ?_<;>intro h0
 ·
  refine w_7 ?_;refine m9 0 ?_;refine db ?_;refine hcd ?_ ?_<;>intro h1
  · refine ip ?_;exact lpx (i+1) ⟨⟨zy,⟨_,rfl,(by rw[ase bmq];first|(rw[ba9 bmr];exact CoR.refl _)|(simp only[bit];rw[b73 bmr];exact CoR.refl _))⟩,tt⟩,trivial⟩
  refine w_5 ?_;exact lpx (i+1) ⟨⟨zy,⟨_,rfl,(by rw[ase bmq];first|(rw[ba9 bmr];exact CoR.refl _)|(simp only[bit];rw[b73 bmr];exact CoR.refl _))⟩,tt⟩,trivial⟩
 obtain rfl:i=l.length:=by omega
 refine w_7 ?_;refine hcd ?_ ?_<;>intro h2
 ·
  refine w_5 ?_;refine hrr ?_
  have e2:dy l s=s:=by
   have:=dq.1 bmr;rwa [biz]at this
  exact f9 rfl rfl (⟨cci (by rw[biz,e2,<- hs,b4b e2]),trivial⟩)
 refine eu ?_;refine⟨dy l s, ?_, ?_, ?_⟩
 · show clo l (dy l s)=clo l s0
   rw[axo];exact hs
 · have hne:¬dy l s=s:=fun e=>absurd (congrArg asI e) (by rw[biz]at *;assumption)
   have:=a0f (o8 (l:=l) (s:=s)) (fun e=>hne e.symm);have:=(dy l s).isLt;show 4294967296-(dy l s).toNat<4294967296-s.toNat;omega
 exact⟨⟨⟨_,rfl,(by rw[biz];exact CoR.refl _)⟩,tt⟩,trivial⟩
def a15:a6 bnb 127:=wgx Tryz.func127
def abd (n:Int) (l:List Fd):aa bnb 127 [pI n,pP (fdl l)] (ag [pI (cg n l)]):=by
 refine hpx (nt:=31) Tryz.func127 ?_;refine f4 ?_;refine j4 1 rfl fun hlen=>?_;refine w_9 ?_;refine be rfl rfl ?_ ?_<;>intro r0
 ·
  have h0:=tz1 r0;(iterate 2 refine k9 (gtf r0) ?_);refine w_7 ?_
  exact hx8 rfl rfl rfl (⟨cci (by rw[cg,if_pos bmq]),trivial⟩)
 have h0:=tz2 r0;(iterate 2 refine qy ?_ (hg:=(gff r0)));refine w_2 ?_;refine az _ rfl ?_ ?_<;>intro r1
 · have h1:=tz1 (ck r0 r1);refine v_4 ?_;exact⟨cci (by rw[cg,if_pos bmq]),trivial⟩
 have h1:=tz2 (ck r0 r1);refine w_8 ?_;refine hcd ?_ ?_<;>intro h2
 · refine v_4 ?_;exact⟨cci (by rw[cg,if_neg bmq,if_pos bmq]),trivial⟩
 refine w_9 ?_;refine b7 (ι:=Nat) (ka 0 (ka 16 (ka 17 kn))) km (fun i=>⟨[(18,some (vI i))],[]⟩) (fun i=>i<=l.length/\∀j,j<i->inU n (l.getD j default)=true) (fun i=>l.length-i) (0) (⟨bio _,fun j hj=>absurd hj (bip j)⟩) kk ?_;rintro i ⟨hi,hI⟩;refine w_5 ?_;refine hcd ?_ ?_<;>intro h3
 ·
  refine w_7 ?_;refine m9 0 ?_;refine kg ?_;refine hcn ?_ ?_<;>intro h4
  · refine v_4 ?_;exact⟨cci (by rw[cg,if_neg bmq,if_neg bmq,if_neg (fun e=>absurd (bd9 (l:=l) (p:=inU n) (i:=i) bmq (by rw[bj5];exact fun e=>absurd (ans.2 e) bmr)) (by rw[e];decide))]),trivial⟩
  refine w_5 ?_;refine lpz (i+1) kk ?_;refine⟨by omega,fun j hj=>?_⟩
  rcases Nat.lt_or_eq_of_le (Nat.le_of_lt_succ hj)with h|h
  · exact hI j h
  subst h;exact ans.1 bmr
 obtain rfl:i=l.length:=by omega
 refine v_5 ?_;exact⟨cci (by rw[cg,if_neg bmq,if_neg bmq,if_pos (bap fun j hj=>hI j hj)]),trivial⟩
def b5c:a6 bnb 29:=wgx Tryz.func29
def b5s (n:Int):aa bnb 29 [pI n] (ag [pA (aj n)]):=by
 refine hpx (nt:=19) Tryz.func29 ?_;refine mf ?_;refine bp (ka 0 kn) km (fun i=>⟨[(4,some (vI i)),(3,some (vA (pk i)))],[]⟩) (min n.toNat 32) kk ?_;rintro i hi;refine w_7 ?_;refine be rfl rfl ?_ ?_<;>intro r0
 ·
  have h0:=tz1 r0;(iterate 2 refine qy ?_ (hg:=(gtt r0)));refine w_2 ?_;refine az _ rfl ?_ ?_<;>intro r1
  · have h1:=tz1 (dc r0 r1);refine ic ?_;exact lpx (i+1) ⟨⟨zy,⟨_,rfl,(by simp only[bit];exact nk (arx i))⟩,tt⟩,trivial⟩
  have h1:=tz2 (dc r0 r1);obtain rfl:i=min n.toNat 32:=by omega
  refine v_6 ?_;exact CoL.refl _
 have h0:=tz2 r0;obtain rfl:i=min n.toNat 32:=by omega
 (iterate 2 refine k9 (gft r0) ?_);refine w_9 ?_
 exact hx8 rfl rfl rfl (CoL.refl _)
end
section
def wh (i k:Nat) (hk:k<32):((1:AS)<<<i).getLsbD k=decide (k=i):=by
 rw[BitVec.getLsbD_shiftLeft];by_cases h:k<i
 · simp[h,hk];omega
 by_cases e:k=i
 · subst e;simp[hk]
 have:0<k-i:=by omega
 simp[hk,h,e,BitVec.getLsbD_one];omega
def ul:∀(n k:Nat),k<32->(pk n).getLsbD k=decide (k<n)
 |0,k,hk=>by simp[pk]
 | n+1,k,hk=>by
  rw[abj,bl5,ul n k hk,wh n k hk];by_cases h:k<n
  · simp[h];omega
  by_cases e:k=n
  · simp[e]
  simp[h,e];omega
def auc{s:AS}{n:Nat}:s>>>n=0<->∀k,k<32->n<=k->s.getLsbD k=false:=by
 constructor
 · intro h k hk hn
   have:=congrArg (fun x:AS=>x.getLsbD (k-n)) h;simp only[BitVec.getLsbD_ushiftRight]at this;rw[show n+(k-n)=k by omega]at this;simpa using this
 intro h;apply bke;intro i hi;rw[BitVec.getLsbD_ushiftRight];by_cases hk:n+i<32
 · rw[h (n+i) hk bmq];simp
 rw[BitVec.getLsbD_of_ge _ _ bmq];simp
def a1f{s:AS}{n:Nat}(hn:n<=32):sub s (pk n)<->s>>>n=0:=by
 rw[er,auc];constructor
 · intro h k hk hle
   rw[bj5];intro e;have:=h k hk e;rw[ul n k hk,decide_eq_true_iff]at this;omega
 intro h k hk e;rw[ul n k hk,decide_eq_true_iff];apply Nat.lt_of_not_le;intro hle;rw[h k hk hle]at e;cases e
def am8 {n:Int} (hn:0<=n) (h16:n<=16) {f:Fd}:inU n f=true<->sub f.lhs (aj n)/\sub f.rhs (aj n):=by
 unfold inU aj;rw[decide_eq_true_iff,bjw bmq,<- a1f bmq];exact⟨fun h=>⟨uo a8u h,uo a91 h⟩,fun h=>aam h.1 h.2⟩
abbrev Fd.pc(f:Fd):PC:=.agg [f.c 0,f.c 1]
def imp(l:List Fd)(f:Fd):Bool:=decide (sub f.rhs (clo l f.lhs))
end
section
open Go.Proofs
def an1:a6 bnb 252:=wgx Tryz.func252
def b9u (l:List Fd) (x:Fd):aa bnb 252 [pP (fdl l),x.pc] (ag [pB (imp l x)]):=by
 refine hpx (nt:=13) Tryz.func252 ?_;refine sx7 ?_;refine m9 0 ?_;refine w_9 ?_;refine qcx am5 (ar8 l x.lhs) ?_;refine v_5 ?_;exact⟨ccb (decide_eq_decide.2 gh),trivial⟩
end
section
variable {α:Type}
def ar [Inhabited α] {l:List α} {q:Nat} (hq:q<l.length):l.take (q+1)=l.take q++[l.getD q default]:=by
 rw[List.take_add_one,bik hq];simp[List.getD,hq]
def asw [Inhabited α] {l:List α} {q:Nat} (h0:0<q) (hq:q<=l.length):(l.take q).getLast? = some (l.getD (q-1) default):=by
 obtain⟨k,rfl⟩:∃k,q=k+1:=⟨q-1,by omega⟩;rw[ar bmq,List.getLast?_append];simp
section
variable [DecidableEq α]
def ng:Option α->List α->List α
 |_,[]=>[]
 |p,x::l=>if p=some x then ng p l else x::ng (some x) l
def j6(l:List α):List α:=ng none l
def a09(p:Option α)(l:List α):Option α:=match l.getLast? with|some y=>some y|none=>p
def al5 (p:Option α) (y:α) (l:List α):a09 p (y::l)=a09 (some y) l:=by
 unfold a09
 cases l with
 |nil=>rfl
 |cons z l=>simp[List.getLast?_cons]
def a4g(x:α):∀(l:List α) (p:Option α),ng p (l++[x])=ng p l++(if a09 p l=some x then[] else[x])
 | [],p=>by
  unfold a09;simp only[bls,ng,List.getLast?_nil];by_cases h:p=some x<;>simp[h]
 | y :: l,p=>by
  rw[al5];simp only[bku,ng];split
  · rename_i h
    rw[a4g x l p,h]
  rw[a4g x l (some y)];rfl
def jj [Inhabited α] {l:List α} {q:Nat} (h0:0<q) (hq:q<l.length):j6 (l.take (q+1))=j6 (l.take q)++(if l.getD (q-1) default=l.getD q default then[] else[l.getD q default]):=by
 unfold j6;rw[ar hq,a4g];unfold a09;rw[asw h0 bmq];simp
def su [Inhabited α] {l:List α}:∀{k:Nat},k<=l.length->(∀j,0<j->j<k->¬l.getD j default=l.getD (j-1) default)->j6 (l.take k)=l.take k
 |0,_,_=>rfl
 | 1,hk,_=>by
  rw[ar bmq];simp[j6,ng]
 | k+2,hk,h=>by
  rw[jj bmq bmq,su bmq (fun j h1 h2=>h j h1 bmq),if_neg (fun e=>h (k+1) bmq bmq e.symm),<- ar bmq]
def a8g:∀(l:List α) (p:Option α),∀x∈ng p l,x∈l
 | [],_,x,h=>by simp[ng]at h
 | y::l,p,x,h=>by
  simp only[ng]at h;split at h
  · exact bj0 _ (a8g l p x h)
  rcases biv.1 h with rfl|h
  · exact bj6
  exact bj0 _ (a8g l _ x h)
def a8n:∀(l:List α) (p:Option α),∀x∈l,p=some x\/x∈ng p l
 | y :: l,p,x,h=>by
  simp only[ng];split
  · rename_i hp
    rcases biv.1 h with rfl|h
    · exact .inl hp
    exact a8n l p x h
  rcases biv.1 h with rfl|h
  · exact .inr bj6
  rcases a8n l (some y) x h with h|h
  · simp only [bij]at h
    subst h;exact .inr bj6
  exact .inr (bj0 _ h)
def avd {l:List α} {x:α}:x∈j6 l<->x∈l:=⟨a8g l none x,fun h=>by
 rcases a8n l none x h with h|h
 · cases h
 exact h⟩
end
section
variable [Inhabited α]
section
variable {l:List α}
def lm{p:Nat}{v:α}(hp:p<l.length):(l.set p v).getD p default=v:=by simp[List.getD,hp]
def getD_set_ne' {p j:Nat} {v:α} (h:j≠p):(l.set p v).getD j default=l.getD j default:=by
 simp only[List.getD,List.getElem?_set_ne (Ne.symm h)]
variable {c:α->Nat->PV}
def qo{wr wr':Bool}{n p k:Nat}{e:TypeId}{v:α}{x:PV}(hw:wr'=true->wr=true)(hn:n=l.length)(hp:k=p)(hk:p<l.length)(hx:x=c v 0):
 CoO (.arr wr 1 e n (k8 (lf c l) k 0 [x])) (.arr wr' 1 e n (lf c (l.set p v))):=by
 subst hp hx hn;refine⟨hw,rfl,rfl,rfl,fun i j hi hj=>CoP.of_eq ?_⟩;obtain rfl:j=0:=by omega
 unfold k8 lf;by_cases h:i=k
 · subst h
   rw[if_pos ⟨rfl,by omega,by simp⟩,lm hk];rfl
 rw[if_neg bmq,getD_set_ne' h]
def qt {wr wr':Bool} {n p k q d:Nat} {e:TypeId} {l':List α} (hw:wr'=true->wr=true) (hn:n=l.length) (hp:k=p) (hk:p<l.length) (hd:d=q):
 CoO (.arr wr 1 e n (k8 (lf c l) k 0 [lf c l' d 0])) (.arr wr' 1 e n (lf c (l.set p (l'.getD q default)))):=qo hw hn hp hk (by rw[hd];rfl)
def abx {n m a:Nat} {cl:Bool} {l':List α} {z:List Value} {p:Option Int} {h:Option Int} (hn:gw (c8 n h) p=l'.length) (hp:p=none) (ha:l'.length<=a) (hl:l'=l.take l'.length):
 CoP (.sl (gw (c8 n h) p) 1 cl (pn (qf (lf c l) a m z) p)) (psl 1 c l'):=by
 subst hp;refine CoP.sl hn.symm (.inl rfl) (fun h=>by cases h) fun i j hi hj=>CoP.of_eq ?_;rw[hn]at hi;show qf (lf c l) a m z i j=lf c l' i j;unfold qf;rw[if_neg bmq];simp only[lf,List.getD];have e:l'[i]? = l[i]?:=by rw[hl,bjs,if_pos hi]
 rw[e]
end
end
abbrev sC:AS->Nat->PV:=fun s _=>asC s
structure CpI (l:List AS) (k p q:Nat) (m:List AS):Prop where
 len:m.length=l.length
 kq:k<q
 pq:p<q
 ql:q<=l.length
 pre:m.take p=j6 (l.take q)
 high:∀j,q-1<=j->m.getD j default=l.getD j default
section
variable {k:Nat}{l:List AS}
theorem CpI.start (h1:1<=k) (hk:k<l.length) (h:∀j,0<j->j<k->¬l.getD j default=l.getD (j-1) default) (hd:l.getD k default=l.getD (k-1) default):CpI l k k (k+1) l :=
 ⟨rfl,by omega,by omega,by omega,by rw[jj bmq hk,if_pos hd.symm,bjn,su bmq h],fun _ _=>rfl⟩
theorem CpI.skip {p q:Nat} {m:List AS} (h:CpI l k p q m) (hq:q<l.length) (he:m.getD q default=m.getD (q-1) default):CpI l k p (q+1) m:=by
 have hk:=h.kq;refine⟨h.len,by omega,by have:=h.pq;omega,hq, ?_,fun j hj=>h.high j bmq⟩;rw[h.high q bmq,h.high (q-1) bmq]at he;rw[jj bmq hq,if_pos he.symm,bjn,h.pre]
theorem CpI.keep {p q:Nat} {m:List AS} (h:CpI l k p q m) (hq:q<l.length) (he:¬m.getD q default=m.getD (q-1) default):CpI l k (p+1) (q+1) (m.set p (m.getD q default)):=by
 have hk:=h.kq;have hp:=h.pq;have hl:=h.len;refine⟨by simp[hl],by omega,by omega,hq, ?_,fun j hj=>by rw[getD_set_ne' bmq];exact h.high j bmq⟩;have e:=h.high q bmq;rw[e,h.high (q-1) bmq]at he;rw[jj bmq hq,if_neg (fun e=>he e.symm),<- h.pre,ar (by simp[hl];omega),lm bmq,e];congr 1;rw[List.take_set,bm4 bn4]
def wa{a b a' b':Nat}(h:asI (l.getD a' default)=asI (l.getD b' default))(ha:a'=a)(hb:b'=b):l.getD a default=l.getD b default:=by subst ha hb;exact dq.1 h
def w7{a b a' b':Nat}(h:¬asI (l.getD a' default)=asI (l.getD b' default))(ha:a'=a)(hb:b'=b):¬l.getD a default=l.getD b default:=by subst ha hb;exact fun e=>h (congrArg asI e)
def ams (hk:l.length<=k) (h:∀j,0<j->j<k->¬l.getD j default=l.getD (j-1) default):CoP (.sl l.length 1 false (lf sC l)) (asl (j6 l)):=by
 have:=su (bil l.length) fun j h1 h2=>h j h1 bmq;rw[biz]at this;rw[this];exact CoP.refl _
def b2w {m:List AS} {p q n a d:Nat} {cl:Bool} {z:List Value} (hC:CpI l k p q m) (hq:¬q<l.length) (ha:p<=a):CoP (.sl (gw (c8 n (some (p:Int))) none) 1 cl (pn (qf (lf sC m) a d z) none)) (asl (j6 l)):=by
 have e:=hC.pre;have h1:=hC.ql;have h2:=hC.len;have h3:=hC.pq;rw[show q=l.length by omega,biz]at e;have el:(j6 l).length=p:=by rw[<- e];simp;omega
 exact abx (by rw[el];rfl) rfl bmq (by rw[el,e])
end
end
section
open Go.Proofs
def anm:a6 bnb 177:=wgx Tryz.func177
section
variable {p:Prop}
def bms(h:p:=by(repeat' apply And.intro)<;>first|trivial|exact bis rfl):p:=h
def bmv(h:p:=by first|rfl|(dsimp only;omega)):p:=h
def bmy(h:p:=by first|rfl|(dsimp only;omega)):p:=h
def bn0(h:p:=by simp only[c8]; omega):p:=h
def bn3(h:p:=by simp only[c8];omega):p:=h
def axv(l:List AS):dv bnb 177 [.one (.ref 900 l.length)] [(900, .arr true 1 35 l.length (lf sC l))] (.v (.one (.p (asl (j6 l))))) [] []:=by
 refine hfx (nt:=61) Tryz.func177 ?_;refine f4 ?_;refine afm 900 rfl fun hlen=>?_;refine db ?_;refine hcd ?_ ?_<;>intro h0
 · refine w_5 ?_;refine bh 2 rfl rfl rfl ?_;refine hrr ?_;exact⟨_,_,rfl,bms,ams (k:=l.length) (bil _) (fun j h1 h2=>by omega),trivial⟩
 refine w_7 ?_;refine b7 (ι:=Nat) (ka 0 kn) (kb 900 km) (fun k=>⟨[(3,some (vI k))],[]⟩) (fun k=>1<=k/\k<=l.length/\∀j,0<j->j<k->¬l.getD j default=l.getD (j-1) default) (fun k=>l.length-k) (1) (⟨bil _,by omega,fun j h1 h2=>by omega⟩) kk ?_;rintro k ⟨hk1,hk,hI⟩;refine w_8 ?_;refine hcd ?_ ?_<;>intro h1
 ·
  refine za ?_;refine hcd ?_ ?_<;>intro h2
  ·
   refine kg ?_;refine b7 (ι:=Nat×Nat×List AS) (ka 0 (ka 4 kn)) km (fun x=>⟨[(3,some (vI x.1)),(5,some (vI ((x.2.1:Int)-k)))],[(900,some (.arr true 1 35 l.length (lf sC x.2.2)))]⟩) (fun x=>CpI l k x.1 x.2.1 x.2.2) (fun x=>l.length-x.2.1) ((k,k+1,l)) (CpI.start hk1 bmq hI (wa bmr rfl bmq)) ⟨⟨zy,⟨_,rfl,(coi bmv)⟩,trivial⟩,uu⟩ ?_;rintro⟨p,q,m⟩ hC;have hC0:=hC;obtain⟨hml,hkq,hpq,hql,_,_⟩:=hC0;dsimp only at hC hml hkq hpq hql;refine w_8 ?_;refine hcd ?_ ?_<;>intro h3
   ·
    simp only[gw,c8,bit]at h3;refine za ?_;refine hcn ?_ ?_<;>intro h4
    ·
     refine ay2 ?_
     first | (refine lpz (p+1, q+1, m.set p (m.getD q default)) ⟨⟨⟨_, rfl, (coi bmy)⟩, ⟨_, rfl, (coi bmy)⟩, tt⟩, ⟨⟨_, rfl, (qt id hml.symm bmq (by dsimp only; omega) bn0)⟩, trivial⟩⟩ ?_; exact hC.keep bmq (w7 bmr bn0 bn0))
           |(refine lpz (p,q+1,m) ⟨⟨⟨_,rfl,(coi bmv)⟩,⟨_,rfl,(coi bmv)⟩,tt⟩,uu⟩ ?_;exact hC.skip bmq (wa bmr bn3 bn3))
    refine w_6 ?_
    first | (refine lpz (p+1, q+1, m.set p (m.getD q default)) ⟨⟨⟨_, rfl, (coi bmy)⟩, ⟨_, rfl, (coi bmy)⟩, tt⟩, ⟨⟨_, rfl, (qt id hml.symm bmq (by dsimp only; omega) bn0)⟩, trivial⟩⟩ ?_; exact hC.keep bmq (w7 bmr bn0 bn0))
          |(refine lpz (p,q+1,m) ⟨⟨⟨_,rfl,(coi bmv)⟩,⟨_,rfl,(coi bmv)⟩,tt⟩,uu⟩ ?_;exact hC.skip bmq (wa bmr bn3 bn3))
   simp only[gw,c8,bit]at h3;refine w_6 ?_;refine r9 0 true ?_;refine w_5 ?_;refine ap7 rfl rfl rfl rfl rfl ?_;refine w_2 ?_;refine hrr ?_;exact⟨_,_,rfl,bms,b2w hC bmq (by simp[c8]),trivial⟩
  refine w_6 ?_;refine lpz (k+1) kk ?_;refine⟨by omega,by show k+1<=_;omega,fun j h1 h2=>?_⟩
  rcases Nat.lt_or_eq_of_le (Nat.le_of_lt_succ h2)with h|h
  · exact hI j h1 h
  subst h;exact w7 bmr rfl bmq
 refine w_6 ?_;refine bh 2 rfl rfl rfl ?_;refine hrr ?_;exact⟨_,_,rfl,bms,ams (k:=k) bmq hI,trivial⟩
end
end
end Go.Hx
