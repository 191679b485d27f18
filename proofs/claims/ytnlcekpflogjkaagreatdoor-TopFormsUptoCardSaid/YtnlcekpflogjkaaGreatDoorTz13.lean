/- A part of the proof: HxEnv Hx19 Hx23 Cs1 Cs3 Ty1 V1 Cs4 V2. -/
import Derived.Deep.AppendLies
import Derived.Laws.CopyRow
import Derived.Shelf.Spec.SlicesInsertGrow
import Derived.Test.YtnlcekpflogjkaaGreatDoorProg
import Derived.Test.YtnlcekpflogjkaaGreatDoorTz12
set_option linter.all false
set_option maxRecDepth 100000
section
namespace Go.Hx
open Go.Proofs
noncomputable abbrev bxr:=Tryz.prog
def zh:List (Nat×Nat):=[(25,131),(28,61),(32,9),(33,81),(38,50),(46,52),(79,84),(82,5),(96,151),(124,3),(136,192),(141,124),(184,4),(233,235),(273,274),(294,28)]
def a86:List (Nat×TI):=[(1,⟨.func,1,8,some [.nilFunc],false,false,true⟩),(2,⟨.int .i64,1,8,some [.int .i64 0],false,false,true⟩),(3,⟨.int .i64,1,8,some [.int .i64 0],false,false,true⟩),(4,⟨.bool,1,1,some [.bool false],false,false,true⟩),(5,⟨.int .u8,1,1,some [.int .u8 0],false,false,true⟩),(9,⟨.string,1,16,some [.string ⟨#[]⟩],false,false,true⟩),(21,⟨.int .i32,1,4,some [.int .i32 0],false,false,true⟩),(26,⟨.struct [(0,5,false),(1,25,false)],2,32,some [.int .u8 0, .slice none 0 0],false,false,false⟩),(27,⟨.struct [(0,5,false),(1,25,false)],2,32,some [.int .u8 0, .slice none 0 0],false,false,false⟩),(34,⟨.struct [(0,9,false),(1,32,false),(2,33,false)],3,64,some [.string ⟨#[]⟩, .slice none 0 0, .slice none 0 0],false,false,false⟩),(35,⟨.struct [(0,9,false),(1,32,false),(2,33,false)],3,64,some [.string ⟨#[]⟩, .slice none 0 0, .slice none 0 0],false,false,false⟩),(39,⟨.int .i64,1,8,some [.int .i64 0],false,false,true⟩),(49,⟨.int .u32,1,4,some [.int .u32 0],false,false,true⟩),(50,⟨.int .u32,1,4,some [.int .u32 0],false,false,true⟩),(51,⟨.struct [(0,50,false),(1,50,false)],2,8,some [.int .u32 0, .int .u32 0],false,false,false⟩),(52,⟨.struct [(0,50,false),(1,50,false)],2,8,some [.int .u32 0, .int .u32 0],false,false,false⟩),(61,⟨.struct [(0,50,false),(1,50,false)],2,8,some [.int .u32 0, .int .u32 0],false,false,false⟩),(65,⟨.func,1,8,some [.nilFunc],false,false,true⟩),(68,⟨.func,1,8,some [.nilFunc],false,false,true⟩),(78,⟨.func,1,8,some [.nilFunc],false,false,true⟩),(80,⟨.struct [(0,2,false),(1,79,false)],2,32,some [.int .i64 0, .slice none 0 0],false,false,false⟩),(81,⟨.struct [(0,2,false),(1,79,false)],2,32,some [.int .i64 0, .slice none 0 0],false,false,false⟩),(83,⟨.struct [(0,3,false),(1,2,false),(2,9,false)],3,32,some [.int .i64 0, .int .i64 0, .string ⟨#[]⟩],false,false,false⟩),(84,⟨.struct [(0,3,false),(1,2,false),(2,9,false)],3,32,some [.int .i64 0, .int .i64 0, .string ⟨#[]⟩],false,false,false⟩),(104,⟨.func,1,8,some [.nilFunc],false,false,true⟩),(111,⟨.func,1,8,some [.nilFunc],false,false,true⟩),(112,⟨.func,1,8,some [.nilFunc],false,false,true⟩),(118,⟨.func,1,8,some [.nilFunc],false,false,true⟩),(119,⟨.func,1,8,some [.nilFunc],false,false,true⟩),(121,⟨.func,1,8,some [.nilFunc],false,false,true⟩),(122,⟨.func,1,8,some [.nilFunc],false,false,true⟩),(130,⟨.struct [(0,5,false),(1,5,false)],2,2,some [.int .u8 0, .int .u8 0],false,false,false⟩),(131,⟨.struct [(0,5,false),(1,5,false)],2,2,some [.int .u8 0, .int .u8 0],false,false,false⟩),(137,⟨.func,1,8,some [.nilFunc],false,false,true⟩),(138,⟨.func,1,8,some [.nilFunc],false,false,true⟩),(140,⟨.func,1,8,some [.nilFunc],false,false,true⟩),(142,⟨.struct [(0,3,false),(1,141,false)],2,32,some [.int .i64 0, .slice none 0 0],false,false,false⟩),(143,⟨.struct [(0,3,false),(1,141,false)],2,32,some [.int .i64 0, .slice none 0 0],false,false,false⟩),(150,⟨.struct [(0,4,false),(1,3,false),(2,3,false),(3,3,false)],4,32,some [.bool false, .int .i64 0, .int .i64 0, .int .i64 0],false,false,false⟩),(151,⟨.struct [(0,4,false),(1,3,false),(2,3,false),(3,3,false)],4,32,some [.bool false, .int .i64 0, .int .i64 0, .int .i64 0],false,false,false⟩),(186,⟨.struct [(0,3,false),(1,124,false)],2,32,some [.int .i64 0, .slice none 0 0],false,false,false⟩),(187,⟨.struct [(0,3,false),(1,124,false)],2,32,some [.int .i64 0, .slice none 0 0],false,false,false⟩),(189,⟨.map 50 124,1,8,some [.map none],false,false,true⟩),(191,⟨.struct [(0,50,false),(1,2,false),(2,2,false)],3,24,some [.int .u32 0, .int .i64 0, .int .i64 0],false,false,false⟩),(192,⟨.struct [(0,50,false),(1,2,false),(2,2,false)],3,24,some [.int .u32 0, .int .i64 0, .int .i64 0],false,false,false⟩),(193,⟨.map 50 195,1,8,some [.map none],false,false,true⟩),(195,⟨.array 2 2,2,16,some [.int .i64 0, .int .i64 0],false,false,false⟩),(197,⟨.map 50 50,1,8,some [.map none],false,false,true⟩),(201,⟨.func,1,8,some [.nilFunc],false,false,true⟩),(202,⟨.func,1,8,some [.nilFunc],false,false,true⟩),(208,⟨.int .u64,1,8,some [.int .u64 0],false,false,true⟩),(219,⟨.func,1,8,some [.nilFunc],false,false,true⟩),(224,⟨.func,1,8,some [.nilFunc],false,false,true⟩),(234,⟨.struct [(0,3,false),(1,141,false)],2,32,some [.int .i64 0, .slice none 0 0],false,false,false⟩),(235,⟨.struct [(0,3,false),(1,141,false)],2,32,some [.int .i64 0, .slice none 0 0],false,false,false⟩),(250,⟨.func,1,8,some [.nilFunc],false,false,true⟩),(254,⟨.int .i64,1,8,some [.int .i64 0],false,false,true⟩),(262,⟨.int .u64,1,8,some [.int .u64 0],false,false,true⟩),(263,⟨.func,1,8,some [.nilFunc],false,false,true⟩),(274,⟨.array 2 3,2,16,some [.int .i64 0, .int .i64 0],false,false,false⟩),(281,⟨.int .u64,1,8,some [.int .u64 0],false,false,true⟩),(285,⟨.pointer 3,1,8,some [.pointer none],false,false,true⟩),(292,⟨.array 32 5,32,32,some [.int .u8 0, .int .u8 0, .int .u8 0, .int .u8 0, .int .u8 0, .int .u8 0, .int .u8 0, .int .u8 0, .int .u8 0, .int .u8 0, .int .u8 0, .int .u8 0, .int .u8 0, .int .u8 0, .int .u8 0, .int .u8 0, .int .u8 0, .int .u8 0, .int .u8 0, .int .u8 0, .int .u8 0, .int .u8 0, .int .u8 0, .int .u8 0, .int .u8 0, .int .u8 0, .int .u8 0, .int .u8 0, .int .u8 0, .int .u8 0, .int .u8 0, .int .u8 0],false,false,false⟩),(295,⟨.pointer 297,1,8,some [.pointer none],false,false,true⟩),(296,⟨.struct [(0,295,false),(1,82,false)],2,32,some [.pointer none, .slice none 0 0],false,false,false⟩),(297,⟨.struct [(0,295,false),(1,82,false)],2,32,some [.pointer none, .slice none 0 0],false,false,false⟩),(304,⟨.map 274 3,1,8,some [.map none],false,false,true⟩),(312,⟨.pointer 281,1,8,some [.pointer none],false,false,true⟩),(317,⟨.pointer 5,1,8,some [.pointer none],false,false,true⟩),(318,⟨.map 9 3,1,8,some [.map none],false,false,true⟩)]
def ahq {α:Type}:List (Nat×α)->Nat->Option α
 | [],_=>none
 |(a,x)::r,n=>bif Nat.beq a n then some x else ahq r n
def d4:Env:=fun t=>match ahq zh t with|some e=>some ⟨.slice e,1,24,some [.slice none 0 0],false,false,true⟩|none=>ahq a86 t
def acg {α:Type}:∀{l:List (Nat×α)} {t:Nat} {i:α},ahq l t=some i->(t,i)∈l
 | (a,x)::r,t,i,h=>by
  simp only[ahq]at h
  cases hb:Nat.beq a t with
  |true=>rw[hb]at h;cases h;rw[btx hb];exact buc
  |false=>rw[hb]at h;exact bub _ (acg h)
def b5c:a86.map (fun p=>w5 bxr p.1)=a86.map (fun p=>some p.2):=by kernel_rfl
def axl:zh.map (fun p=>w5 bxr p.1)=zh.map (fun p=>some ⟨.slice p.2,1,24,some [.slice none 0 0],false,false,true⟩):=by kernel_rfl
def ca:d6 bxr d4:=fun t i h=>by
 unfold d4 at h
 cases hs:ahq zh t with
 |some e=>rw[hs]at h;cases h;exact List.map_inj_left.1 axl (t,e) (acg hs)
 |none=>rw[hs]at h;exact List.map_inj_left.1 b5c (t,i) (acg h)
def a8u:bxr.follows .mixedOrders=true:=by kernel_rfl
end Go.Hx
namespace Go.Hx
open Go.Proofs
section
variable {ro:Option Nat}{P:Program}{E:Env}{nt:Nat}{ops:Array Oper}{i:Nat}{o:Oper}{st:HSt}{L:List Nat}{K:List Tr->HSt->Prop}{Q:Exit->HSt->Prop}
section
variable {gb:Bool}
def qy {out:Out} (hT:Reg P E nt ops L (st.after o.dst (some out.val) []) fun T sf=>K (⟨i,abs true out.val.ids,looks st.den o,ce st.den o.dst [],gt E st.den o⟩::T) sf) (hi:ops[i]? = some o:=by exact rfl) (hw:bc ops st.den o=some gb:=by exact rfl) (hd:cz nt o.dst=true:=by exact rfl) (hq':hq E true st.den.o (ev st.den) o.op=some out:=by exact rfl) (hg:gb=true:=by exact rfl) (hp:out.pre:=by first|exact trivial|(simp only[kr,inR,ui,x8];omega)|exact aqx _ _|exact⟨trivial,trivial⟩|exact⟨trivial,bt4 rfl⟩|(try dsimp only)<;>((repeat' apply And.intro)<;>first|trivial|rfl|omega|(simp only[iu,bv];omega)|assumption|exact bt4 rfl)):
 Reg P E nt ops (i::L) st K:=du true hi hw hd hq' hg hp hT
def k9(hg:gb=false)(hT:Reg P E nt ops L (st.after o.dst (some (.tup [])) []) fun T sf=>K (⟨i,abs true [],looks st.den o,ce st.den o.dst [],none⟩::T) sf)(hi:ops[i]? = some o:=by exact rfl)(hw:bc ops st.den o=some gb:=by exact rfl)(hd:cz nt o.dst=true:=by exact rfl):Reg P E nt ops (i::L) st K:=au2 hi hw hd hg hT
def m9(id:Nat){nw:New}(hT:Reg P E nt ops L (st.after o.dst (some nw.val) [(id,some nw.ob)]) fun T sf=>K (⟨i,⟨id,false,true, .tup [],[id],[id],nw.val.ids++nw.ob.ids⟩,looks st.den o,ce st.den o.dst [(id,some nw.ob)],none⟩::T) sf)(hi:ops[i]? = some o:=by exact rfl)(hw:bc ops st.den o=some gb:=by exact rfl)(hd:cz nt o.dst=true:=by exact rfl)(hq':ha E (ev st.den) id o.op=some nw:=by exact rfl)(hn:ku id st=true:=by exact rfl)(hg:gb=true:=by exact rfl)(hp:nw.pre:=by first|exact trivial|(try dsimp only)<;>((repeat' apply And.intro)<;>first|trivial|rfl|omega|assumption)):Reg P E nt ops (i::L) st K:=a36 id hi hw hd hq' hn hg hp hT
def s9{u:Upd}(hT:Reg P E nt ops L (st.after o.dst none [(u.id,some u.ob)]) fun T sf=>K (⟨i,⟨0,false,true, .tup [],[u.id],[],u.ob.ids⟩,looks st.den o,ce st.den o.dst [(u.id,some u.ob)],gt E st.den o⟩::T) sf)(hi:ops[i]? = some o:=by exact rfl)(hw:bc ops st.den o=some gb:=by exact rfl)(hd:cz nt o.dst=true:=by exact rfl)(hq':hs E st.den.o (ev st.den) o.op=some u:=by exact rfl)(hg:gb=true:=by exact rfl)(hp:u.pre:=by first|exact bt4 rfl|(try dsimp only)<;>((repeat' apply And.intro)<;>first|trivial|rfl|omega|(simp only[iu,bv];omega)|assumption|exact bt4 rfl)):Reg P E nt ops (i::L) st K:=aly hi hw hd hq' hg hp hT
variable {p:Prop}
def f9{rs:List ResultVar}{res:List PC}{q:Prop}{l:List HC}{vs:List PC}(h1:a0t E st.den rs=some (p,l))(h2:qg st.den.o l=some (q,vs))(hc:CoL vs res)(hp:p:=by(repeat' apply And.intro)<;>first|trivial|exact bt4 rfl|rfl)(hq:q:=by(repeat' apply And.intro)<;>first|trivial|exact bt4 rfl|rfl):ae4 E st rs res:=⟨p,l,q,vs,h1,hp,h2,hq,hc⟩
def c9{f:Option HR}{x:HR}(h:f=some x:=by exact rfl):∃y,f=some y/\CoR y x:=⟨x,h,CoR.refl x⟩
def u9{f:Option aa}{x:aa}(h:f=some x:=by exact rfl):∃y,f=some y/\CoO y x:=⟨x,h,CoO.refl x⟩
def bxf(h:p:=by simp_all):p:=h
def zy{f:Option HR}{x y:HR}(h:f=some y:=by exact rfl)(c:CoR y x:=by first|exact CoR.refl _|exact coi bx5|exact cob bxf):∃y,f=some y/\CoR y x:=⟨y,h,c⟩
def l9{a b:Nat}(h:Nat.ble a b=true:=by exact rfl):a<=b:=bt4 h
def qcx{cl:Call}{f:FuncId}{fst caps args vs:List PC}{b:Bool}{res:PR}(hf:goodFn P f)(hpure:a7 P f args res)(hT:Reg P E nt ops L (st.after o.dst (some res.toH) []) fun T sf=>K (⟨i,⟨0,false,true,res,[],[],[]⟩,looks st.den o,ce st.den o.dst [],none⟩::T) sf)(hi:ops[i]? = some o:=by exact rfl)(hw:bc ops st.den o=some gb:=by exact rfl)(hd:cz nt o.dst=true:=by exact rfl)(ho:o.op=.call cl:=by exact rfl)(hc:callee (ev st.den) cl=some (f,fst,caps):=by exact rfl)(hv:mf st.den.o (ev st.den) cl.args.toList=some (p,vs,b):=by exact rfl)(hco:CoL (fst++(vs++caps)) args:=by exact CoL.refl _)(hb:(!b||res.flat)=true:=by exact rfl)(hg:gb=true:=by exact rfl)(hp:p:=by(try dsimp only)<;>((repeat' apply And.intro)<;>first|trivial|rfl|omega|assumption)):Reg P E nt ops (i::L) st K:=as0 hi hw hd ho hc hv hf hpure hco hg hp hb hT
def wgx {f : FuncId} {fn : Func} (h : P.funcs[f]? = some fn) (h1 : (fn.name == "runtime.NumGoroutine") = false := by kernel_rfl) (h2 : fn.body.isNone = false := by kernel_rfl) : goodFn P f := ⟨fn, h, h1, h2⟩
def bje[Decidable p](h:decide p=true):p:=of_decide_eq_true h
def b3d[Decidable p](h:decide p=false):¬p:=of_decide_eq_false h
def ty{n:Nat}:((n:Nat):Int).toNat=n:=btc n
end
end
def gy{ro:Option Nat}{nt id:Nat}{ops:Array Oper}{st:HSt}{Q:Exit->HSt->Prop}(h:Reg bxr d4 nt ops (List.range ops.size) st fun _ sf=>Q .normal sf):HW (ro:=ro) bxr nt (.region id ops false) st Q:=akp ca h
end Go.Hx
namespace Go.Hx
open Go.Proofs
section
variable {Q:Exit->HSt->Prop}
def sx7{ro:Option Nat}{nt id:Nat}{ops:Array Oper}{st:HSt}{y:Code}(h:Reg bxr d4 nt ops (List.range ops.size) st fun _ sf=>bi8 (ro:=ro) bxr nt y Q .normal sf):HW (ro:=ro) bxr nt (.seq (.region id ops false) y) st Q:=dt (akp ca h)
def hx8{ro:Option Nat}{P:Program}{E:Env}{nt:Nat}{st:HSt}{rs:List ResultVar}{res:List PC}{p q:Prop}{l:List HC}{vs:List PC}(hQ:Q .ret st=((Exit.ret=.normal\/Exit.ret=.ret)/\ae4 E st rs res))(h1:a0t E st.den rs=some (p,l))(h2:qg st.den.o l=some (q,vs))(hc:CoL vs res)(hp:p:=by(repeat' apply And.intro)<;>first|trivial|exact bt4 rfl|rfl)(hq:q:=by(repeat' apply And.intro)<;>first|trivial|exact bt4 rfl|rfl):HW (ro:=ro) P nt .ret st Q:=aeo (hQ▸⟨.inr rfl,p,l,q,vs,h1,hp,h2,hq,hc⟩)
end
end Go.Hx
namespace Go.Hx
open Go.Proofs
def tz1{p q:Prop}{d:Decidable p}(h:decide p=true)(e:p=q:=by first|(simp only[ty];done)|(simp only[ty];exact rfl)|exact rfl):q:=e▸of_decide_eq_true h
def tz2{p q:Prop}{d:Decidable p}(h:decide p=false)(e:(¬p)=q:=by first|(simp only[ty];done)|(simp only[ty];exact rfl)|exact rfl):q:=e▸of_decide_eq_false h
section
variable {ro:Option Nat}{P:Program}{nt:Nat}{st:HSt}{Q:Exit->HSt->Prop}{c:Operand}{x y:Code}{p q q':Prop}{d:Decidable p}
def hcd (ht:q->HW (ro:=ro) P nt x st Q) (hf:q'->HW (ro:=ro) P nt y st Q) (hc:ev st.den c=some (.v (.one (.p (.raw (.bool (@decide p d)))))):=by exact rfl) (e:p=q:=by first|(simp only[ty];done)|(simp only[ty];exact rfl)|exact rfl) (e':(¬p)=q':=by first|(simp only[ty];done)|(simp only[ty];exact rfl)|exact rfl):HW (ro:=ro) P nt (.cond c x y) st Q :=
 ax _ hc (fun h=>ht (e▸of_decide_eq_true h)) (fun h=>hf (e'▸of_decide_eq_false h))
def hcn (ht:q'->HW (ro:=ro) P nt x st Q) (hf:q->HW (ro:=ro) P nt y st Q) (hc:ev st.den c=some (.v (.one (.p (.raw (.bool (!(@decide p d))))))):=by exact rfl) (e:p=q:=by first|(simp only[ty];done)|(simp only[ty];exact rfl)|exact rfl) (e':(¬p)=q':=by first|(simp only[ty];done)|(simp only[ty];exact rfl)|exact rfl):HW (ro:=ro) P nt (.cond c x y) st Q :=
 ax _ hc (fun h=>ht (e'▸of_decide_eq_false (cj h))) (fun h=>hf (e▸of_decide_eq_true (cn h)))
def hcb{b:Bool}(ht:b=true->HW (ro:=ro) P nt x st Q)(hf:b=false->HW (ro:=ro) P nt y st Q)(hc:ev st.den c=some (.v (.one (.p (.raw (.bool b))))):=by exact rfl):HW (ro:=ro) P nt (.cond c x y) st Q:=ax _ hc ht hf
def hcv {b:Bool} (ht:b=false->HW (ro:=ro) P nt x st Q) (hf:b=true->HW (ro:=ro) P nt y st Q) (hc:ev st.den c=some (.v (.one (.p (.raw (.bool (!b)))))):=by exact rfl):HW (ro:=ro) P nt (.cond c x y) st Q :=
 ax _ hc (fun h=>ht (cj h)) (fun h=>hf (cn h))
section
variable {l:List (Nat×Option HR)}
def ka{x:HR}{r:List (Nat×Option HR)}(d:Nat)(h:sq r l)(e:b5 l d=some x:=by exact rfl):sq ((d,some x)::r) l:=⟨⟨x,e,CoR.refl x⟩,h⟩
def kb{x:aa}{r l:List (Nat×Option aa)}(d:Nat)(h:ue r l)(e:b5 l d=some x:=by exact rfl):ue ((d,some x)::r) l:=⟨⟨x,e,CoO.refl x⟩,h⟩
def kn:sq [] l:=trivial
def km{l:List (Nat×Option aa)}:ue [] l:=trivial
variable {ko:List (Nat×Option aa)}{kt:List (Nat×Option HR)}{ι:Type}
def am{body:Code}(hT:sq kt st.t)(hO:ue ko st.o)(J:ι->HSt)(p:ι->Prop)(μ:ι->Nat)(i0:ι)(h0:p i0)(hs:Sub (J i0) st)(round:∀i,p i->HW (ro:=ro) P nt body ((J i).app ⟨kt,ko⟩) (al6 (fun i=>(J i).app ⟨kt,ko⟩) p μ i Q)):HW (ro:=ro) P nt (.loop body) st Q:=aov ⟨kt,ko⟩ ⟨hT,hO⟩ J p μ i0 h0 hs round
def dp{x y:Code}(hT:sq kt st.t)(hO:ue ko st.o)(J:ι->HSt)(p:ι->Prop)(h1:HW (ro:=ro) P nt x st (b4p (fun i=>(J i).app ⟨kt,ko⟩) p Q))(h2:∀i,p i->HW (ro:=ro) P nt y ((J i).app ⟨kt,ko⟩) Q):HW (ro:=ro) P nt (.seq x y) st Q:=aqb ⟨kt,ko⟩ ⟨hT,hO⟩ J p h1 h2
def tt{p:Prop}(h:p:=by repeat (first|exact trivial|refine⟨⟨_,rfl,CoR.refl _⟩, ?_⟩|refine⟨⟨_,rfl,(by first|exact CoR.refl _|exact coi bx5|exact cob bxf)⟩, ?_⟩)):p:=h
def uu{p:Prop}(h:p:=by repeat (first|exact trivial|refine⟨⟨_,rfl,CoO.refl _⟩, ?_⟩)):p:=h
def kk{a b:HSt}(h:sq a.t b.t:=by exact tt)(h2:ue a.o b.o:=by exact uu):Sub a b:=⟨h,h2⟩
def bw{body:Code}(hT:sq kt st.t)(hO:ue ko st.o)(J:Nat->HSt)(N:Nat)(hs:Sub (J 0) st)(round:∀i,i<=N->HW (ro:=ro) P nt body ((J i).app ⟨kt,ko⟩) (al6 (fun i=>(J i).app ⟨kt,ko⟩) (fun i=>i<=N) (fun i=>N-i) i Q)):HW (ro:=ro) P nt (.loop body) st Q:=aov ⟨kt,ko⟩ ⟨hT,hO⟩ J (fun i=>i<=N) (fun i=>N-i) 0 (bt6 _) hs round
def bpw (S:HSt) (Q:Exit->HSt->Prop):Exit->HSt->Prop
 | .normal,st=>Sub S st
 |e,st=>Q e st
def a1y {x y:Code} (hT:sq kt st.t) (hO:ue ko st.o) (J:HSt) (h1:HW (ro:=ro) P nt x st (bpw (J.app ⟨kt,ko⟩) Q)) (h2:HW (ro:=ro) P nt y (J.app ⟨kt,ko⟩) Q):HW (ro:=ro) P nt (.seq x y) st Q :=
 aqb (ι:=Unit) ⟨kt,ko⟩ ⟨hT,hO⟩ (fun _=>J) (fun _=>True) (atc h1 fun e st' h=>by cases e<;>first|exact⟨(),trivial,h⟩|exact h) fun _ _=>h2
def hcT(h:HW (ro:=ro) P nt x st Q)(hc:ev st.den c=some (.v (.one (.p (.raw (.bool true))))):=by exact rfl):HW (ro:=ro) P nt (.cond c x y) st Q:=ax _ hc (fun _=>h) (fun e=>Bool.noConfusion e)
def hcF(h:HW (ro:=ro) P nt y st Q)(hc:ev st.den c=some (.v (.one (.p (.raw (.bool false))))):=by exact rfl):HW (ro:=ro) P nt (.cond c x y) st Q:=ax _ hc (fun e=>Bool.noConfusion e) (fun _=>h)
def hrr{X:Prop}(h:X)(hQ:Q .ret st=((Exit.ret=.normal\/Exit.ret=.ret)/\X):=by exact rfl):HW (ro:=ro) P nt .ret st Q:=aeo (hQ▸⟨.inr rfl,h⟩)
def hxr {E:Env} {rs:List ResultVar} {res:List PC} {p q:Prop} {l:List HC} {vs:List PC} (hc:CoL vs res) (hQ:Q .ret st=((Exit.ret=.normal\/Exit.ret=.ret)/\ae4 E st rs res):=by exact rfl) (h1:a0t E st.den rs=some (p,l):=by exact rfl) (h2:qg st.den.o l=some (q,vs):=by exact rfl)
 (hp:p:=by(repeat' apply And.intro)<;>first|trivial|exact bt4 rfl|rfl) (hq:q:=by(repeat' apply And.intro)<;>first|trivial|exact bt4 rfl|rfl):HW (ro:=ro) P nt .ret st Q:=aeo (hQ▸⟨.inr rfl,p,l,q,vs,h1,hp,h2,hq,hc⟩)
def kd{a b:Prop}(h:b)(k:a:=by kernel_rfl):a/\b:=⟨k,h⟩
def lpz{I:ι->HSt}{pp:ι->Prop}{μ:ι->Nat}{k:Nat}(i':ι)(hs:Sub (I i') st)(hp:pp i')(hm:μ i'<k:=by first|omega|(dsimp only;omega)):∃i',pp i'/\μ i'<k/\Sub (I i') st:=⟨i',hp,hm,hs⟩
def lpx{I:ι->HSt}{pp:ι->Prop}{μ:ι->Nat}{k:Nat}(i':ι)(hs:Sub (I i') st)(hp:pp i':=by first|trivial|(show _+1<=_;omega))(hm:μ i'<k:=by first|omega|(dsimp only;omega)):∃i',pp i'/\μ i'<k/\Sub (I i') st:=⟨i',hp,hm,hs⟩
end
end
def hpx{nt:Nat}{f:FuncId}{fn:Func}{body:Code}{args res:List PC}(hf:bxr.funcs[f]? = some fn)(h:HW (ro:=none) bxr nt body ⟨a1u 0 args,[]⟩ fun e st=>(e=.normal\/e=.ret)/\ae4 d4 st fn.results.toList res)(hb:fn.body=some body:=by exact rfl)(hn:fn.ntmps=nt:=by exact rfl)(hl:args.length<=nt:=by exact bt4 rfl):a7 bxr f args (ae res):=b4i ca hf hb hn hl h
def hfx{nt:Nat}{f:FuncId}{fn:Func}{body:Code}{args:List HC}{o1 o2:List (Nat×aa)}{res:HR}{fx:List Nat}(hf:bxr.funcs[f]? = some fn)(h:HW (ro:=none) bxr nt body ⟨a2d 0 args,mn o1⟩ fun e st=>(e=.normal\/e=.ret)/\bjv d4 st fn.results.toList res o2)(hb:fn.body=some body:=by exact rfl)(hn:fn.ntmps=nt:=by exact rfl)(hl:args.length<=nt:=by exact bt4 rfl)(hx:fx.all (Nat.ble 1000)=true:=by exact rfl):dv bxr f args o1 res o2 fx:=b9a ca hf hb hn hl hx h
def gd{ro:Option Nat}{nt id:Nat}{ops:Array Oper}{st:HSt}{Q:Exit->HSt->Prop}(h:Reg bxr d4 nt ops (List.range ops.size) st fun T sf=>adz ops T=true/\Q .normal sf):HW (ro:=ro) bxr nt (.region id ops true) st Q:=bdw ca a8u _ h
section
variable {P:Program}{E:Env}{nt:Nat}{ops:Array Oper}{i:Nat}{o:Oper}{st:HSt}{L:List Nat}{K:List Tr->HSt->Prop}
def r9 (id:Nat) (wb:Bool) {u:App} {gb:Bool} (hT:Reg P E nt ops L (st.after o.dst (some u.val) [(u.id,some u.ob)]) fun T sf=>K (⟨i,⟨id,wb,true, .tup [],[u.id],if u.new then[id] else[],u.val.ids++u.ob.ids⟩,looks st.den o,ce st.den o.dst [(u.id,some u.ob)],none⟩::T) sf)
 (hi:ops[i]? = some o:=by exact rfl) (hw:bc ops st.den o=some gb:=by exact rfl) (hd:cz nt o.dst=true:=by exact rfl) (hq':hap E st.den.o (ev st.den) id wb o.op=some u:=by exact rfl) (hn:(!u.new||ku id st)=true:=by exact rfl) (hg:gb=true:=by exact rfl)
 (hp:u.pre:=by(try dsimp only)<;>((repeat' apply And.intro)<;>first|trivial|rfl|assumption|omega|(simp only[btc];omega)|(simp only[iu,bv];omega)|exact Or.inl rfl|exact Or.inr rfl|exact(fun _=>Or.inl rfl)|exact(fun _=>Or.inr (bt4 rfl))|exact bt4 rfl|(intro h;cases h;done))):Reg P E nt ops (i::L) st K:=a7e id wb hi hw hd hq' hn hg hp hT
def fc9 {cl:Call} {f:FuncId} {caps hcs:List HC} {args:List HC} {o1 o2:List (Nat×aa)} {res:HR} {fx:List Nat} {gb:Bool} (hf:goodFn P f) (hfun:dv P f args o1 res o2 fx) (hsub:ahg o1 st.den.o)
 (hT:Reg P E nt ops L (st.after o.dst (some res) (yp o1 o2)) fun T sf=>K (⟨i,⟨0,false,true, .tup [],keys o1++keys o2,anl o1 o2 fx,res.ids++ac0 o2⟩,looks st.den o,ce st.den o.dst (yp o1 o2),none⟩::T) sf)
 (hi:ops[i]? = some o:=by exact rfl) (hw:bc ops st.den o=some gb:=by exact rfl) (hd:cz nt o.dst=true:=by exact rfl) (ho:o.op=.call cl:=by exact rfl) (hc:x6 (ev st.den) cl=some (f,caps):=by exact rfl) (hv:tw (ev st.den) cl.args.toList=some hcs:=by exact rfl) (hco:vw (hcs++caps) args:=by exact vw.refl _) (hB:fcB o1 o2 res fx st=true:=by exact rfl) (hg:gb=true:=by exact rfl):Reg P E nt ops (i::L) st K:=l6 hi hw hd ho hc hv hf hfun hco hsub hB hg hT
end
end Go.Hx
end
section
namespace Go.Hx
structure Hq (Q:Prop):Prop where
 v:Q
section
variable {P Q:Prop}
def w_1(hQ:Q)(h:Hq Q->P:=by intro h;(first|refine qy ?_|refine dq ?_|refine dt ?_|refine gy ?_|refine s9 ?_|refine gd ?_|refine kd ?_|refine hcT ?_|refine hcF ?_|refine fk ?_|refine aeo ?_|refine a4j ?_|refine ek ?_);exact h.v):P:=h ⟨hQ⟩
def w_2(hQ:Q)(h:Hq Q->P:=by intro h;(iterate 2 refine w_1 ?_);exact h.v):P:=h ⟨hQ⟩
def w_3(hQ:Q)(h:Hq Q->P:=by intro h;(iterate 3 refine w_1 ?_);exact h.v):P:=h ⟨hQ⟩
def w_4(hQ:Q)(h:Hq Q->P:=by intro h;(iterate 4 refine w_1 ?_);exact h.v):P:=h ⟨hQ⟩
def w_5(hQ:Q)(h:Hq Q->P:=by intro h;(iterate 5 refine w_1 ?_);exact h.v):P:=h ⟨hQ⟩
def w_6(hQ:Q)(h:Hq Q->P:=by intro h;(iterate 6 refine w_1 ?_);exact h.v):P:=h ⟨hQ⟩
def w_7(hQ:Q)(h:Hq Q->P:=by intro h;(iterate 7 refine w_1 ?_);exact h.v):P:=h ⟨hQ⟩
def w_8(hQ:Q)(h:Hq Q->P:=by intro h;(iterate 8 refine w_1 ?_);exact h.v):P:=h ⟨hQ⟩
def w_9(hQ:Q)(h:Hq Q->P:=by intro h;(iterate 9 refine w_1 ?_);exact h.v):P:=h ⟨hQ⟩
def cr(hQ:Q)(h:Hq Q->P:=by intro h;(iterate 10 refine w_1 ?_);exact h.v):P:=h ⟨hQ⟩
def gv(hQ:Q)(h:Hq Q->P:=by intro h;(iterate 11 refine w_1 ?_);exact h.v):P:=h ⟨hQ⟩
def gh(hQ:Q)(h:Hq Q->P:=by intro h;(iterate 12 refine w_1 ?_);exact h.v):P:=h ⟨hQ⟩
def mq(hQ:Q)(h:Hq Q->P:=by intro h;(iterate 13 refine w_1 ?_);exact h.v):P:=h ⟨hQ⟩
def qb(hQ:Q)(h:Hq Q->P:=by intro h;(iterate 14 refine w_1 ?_);exact h.v):P:=h ⟨hQ⟩
def jk(hQ:Q)(h:Hq Q->P:=by intro h;(iterate 15 refine w_1 ?_);exact h.v):P:=h ⟨hQ⟩
def ss(hQ:Q)(h:Hq Q->P:=by intro h;(iterate 16 refine w_1 ?_);exact h.v):P:=h ⟨hQ⟩
def a2y(hQ:Q)(h:Hq Q->P:=by intro h;(iterate 17 refine w_1 ?_);exact h.v):P:=h ⟨hQ⟩
def abw(hQ:Q)(h:Hq Q->P:=by intro h;(iterate 18 refine w_1 ?_);exact h.v):P:=h ⟨hQ⟩
def a5u(hQ:Q)(h:Hq Q->P:=by intro h;(iterate 19 refine w_1 ?_);exact h.v):P:=h ⟨hQ⟩
def awe(hQ:Q)(h:Hq Q->P:=by intro h;(iterate 20 refine w_1 ?_);exact h.v):P:=h ⟨hQ⟩
def am9(hQ:Q)(h:Hq Q->P:=by intro h;(iterate 21 refine w_1 ?_);exact h.v):P:=h ⟨hQ⟩
def amk(hQ:Q)(h:Hq Q->P:=by intro h;(iterate 22 refine w_1 ?_);exact h.v):P:=h ⟨hQ⟩
def b6f(hQ:Q)(h:Hq Q->P:=by intro h;(iterate 23 refine w_1 ?_);exact h.v):P:=h ⟨hQ⟩
def bp9(hQ:Q)(h:Hq Q->P:=by intro h;(iterate 24 refine w_1 ?_);exact h.v):P:=h ⟨hQ⟩
def bp3(hQ:Q)(h:Hq Q->P:=by intro h;(iterate 25 refine w_1 ?_);exact h.v):P:=h ⟨hQ⟩
def bhl(hQ:Q)(h:Hq Q->P:=by intro h;(iterate 26 refine w_1 ?_);exact h.v):P:=h ⟨hQ⟩
def bqa(hQ:Q)(h:Hq Q->P:=by intro h;(iterate 28 refine w_1 ?_);exact h.v):P:=h ⟨hQ⟩
def bpj(hQ:Q)(h:Hq Q->P:=by intro h;(iterate 29 refine w_1 ?_);exact h.v):P:=h ⟨hQ⟩
def bp5(hQ:Q)(h:Hq Q->P:=by intro h;(iterate 30 refine w_1 ?_);exact h.v):P:=h ⟨hQ⟩
def bkl(hQ:Q)(h:Hq Q->P:=by intro h;(iterate 32 refine w_1 ?_);exact h.v):P:=h ⟨hQ⟩
end
end Go.Hx
end
section
namespace Go.Hx
theorem v_2{P Q:Prop}(hQ:Q)(h:Hq Q->P:=by intro h;(iterate 2 refine w_1 ?_);refine hxr ?_;exact h.v):P:=h ⟨hQ⟩
theorem v_3{P Q:Prop}(hQ:Q)(h:Hq Q->P:=by intro h;(iterate 3 refine w_1 ?_);refine hxr ?_;exact h.v):P:=h ⟨hQ⟩
theorem v_4{P Q:Prop}(hQ:Q)(h:Hq Q->P:=by intro h;(iterate 4 refine w_1 ?_);refine hxr ?_;exact h.v):P:=h ⟨hQ⟩
theorem v_5{P Q:Prop}(hQ:Q)(h:Hq Q->P:=by intro h;(iterate 5 refine w_1 ?_);refine hxr ?_;exact h.v):P:=h ⟨hQ⟩
theorem v_6{P Q:Prop}(hQ:Q)(h:Hq Q->P:=by intro h;(iterate 6 refine w_1 ?_);refine hxr ?_;exact h.v):P:=h ⟨hQ⟩
theorem v_7{P Q:Prop}(hQ:Q)(h:Hq Q->P:=by intro h;(iterate 7 refine w_1 ?_);refine hxr ?_;exact h.v):P:=h ⟨hQ⟩
theorem v_8{P Q:Prop}(hQ:Q)(h:Hq Q->P:=by intro h;(iterate 8 refine w_1 ?_);refine hxr ?_;exact h.v):P:=h ⟨hQ⟩
theorem v_9{P Q:Prop}(hQ:Q)(h:Hq Q->P:=by intro h;(iterate 9 refine w_1 ?_);refine hxr ?_;exact h.v):P:=h ⟨hQ⟩
end Go.Hx
end
namespace Go.Hx
section
open Go.Proofs Go.Lib Go.RowKit
def bl4 (w:World) (o:Obj) {r:Nat} (h:r<w.heap.size):(w.alloc o).heap[r]? = w.heap[r]?:=by
 show(w.heap.push o)[r]? = _;rw[Array.getElem?_push_lt h,bul h]
def bsj(k:Nat)(xs vs:List Value):List Value:=xs.take k++vs++xs.drop k
structure bqp (w w':World) (T s:Nat) (own v:Value) (n:Nat) (xs:List Value):Prop where
 row:w'.ownsRow 0 T s v (n+1) xs
 bl:Below 0 w w'
 out:∀g,g<w.heap.size->ct own≠some g->w'.heap[g]? = w.heap[g]?
 at_:∀g,ct v=some g->w.heap.size<=g\/ct own=some g
def bry(i:Nat)(F G:Nat->Nat->PV):Nat->Nat->PV:=fun k j=>if k<i then F k j else if k=i then G 0 j else F (k-1) j
def ji{id q:Nat}{x ob:aa}(h:lk [(q,x)] id=some ob):id=q/\ob=x:=by
 simp only[lk]at h;by_cases hk:q=id
 · subst hk
   simp at h;exact⟨rfl,h.symm⟩
 have:Nat.beq q id=false:=by
  rw[btf];exact fun hb=>hk (btx hb)
 rw[this]at h;cases h
structure bsb (c:Ctx) (w w':World) (T s a:Nat) (v:Value) (n:Nat) (ys:List Value):Prop where
 row:w'.ownsRow 0 T s v (n+1) ys
 bl:Below 0 w w'
 out:∀g,g<w.heap.size->¬c.blk a g->w'.heap[g]? = w.heap[g]?
 at_:∀g,ct v=some g->w.heap.size<=g\/c.blk a g
def b4s{P:Program}{f:FuncId}{T s a:Nat}{y:Value}{F:Nat->Nat->PV}(hs:0<s)
 (h:∀(w:World) (ad:Option Addr),Calls P f #[.slice ad 0 0,y] w fun e w'=>∃v,e=.returned v/\Below w.heap.size w w'/\(v=.slice ad 0 0\/w'.ownsRow 0 T s v 0 []/\∀g,ct v=some g->w.heap.size<=g)) :
 dv P f [.one (.p (kj (.slice none 0 0))), .one (.p (.raw y))] [] (.v (.one (.ref a 0))) [(a, .arr true s T 0 F)] []:=by
 intro w c us hM hrep
 obtain ⟨ad,rfl⟩:∃ad,us=[.slice ad 0 0,y]:=by
  match us,hrep with
  | [u0,u1],⟨h0,h1,_⟩ =>
   obtain⟨ad,cap,hv,_,_,hc,_⟩:=h0;obtain rfl:cap=0:=hc rfl;exact⟨ad,by rw[hv,show u1=y from h1.1]⟩
 refine(h w ad).mono ?_;rintro e w' ⟨v,rfl,hb,hor⟩;have la:lk [(a,aa.arr true s T 0 F)] a=some (.arr true s T 0 F):=by simp[lk]
 have him:∀q ob,c.imm q=some ob->q<w.heap.size:=fun q ob hq=>(bt5.1 (hM.imm q ob hq)).1
 have hform:v.oneCell'=true:=by
  rcases hor with rfl|⟨hrow,_⟩
  · rfl
  rcases hrow.2 with⟨hv,_⟩|⟨g,cap,cur,hv,_⟩<;>(subst hv;rfl)
 have hbk:∃bk:Nat->Prop,(∀g,bk g->w.heap.size<=g)/\(bk=fm v/\w'.ownsRow 0 T s v 0 []\/bk=noB/\au c.imm (.sl 0 s true F) v):=by
  rcases hor with rfl|⟨hrow,hat⟩
  · exact⟨noB,fun g hg=>hg.elim, .inr ⟨rfl,ad,0,rfl,bt2 _,bt6 _,fun _=>rfl,fun h=>absurd h (bvy 0)⟩⟩
  exact⟨fm v,hat, .inl ⟨rfl,hrow⟩⟩
 obtain⟨bk,hat,hok⟩:=hbk;refine⟨v,{ c with own:=fun q=>if q=a then v else c.own q,blk:=fun q=>if q=a then bk else c.blk q },rfl,⟨hform,fun l hl=>(by cases(ji hl).2),fun ob s1 e1 n1 ho1 hd=>?_⟩,⟨fun id ob hl=>?_,fun id id' ob ob' q hl hl' _ _=>by rw[(ji hl).1,(ji hl').1],fun q ob hq=>(hb.block q (him q ob hq)).trans (hM.imm q ob hq),fun id ob q hl hq=>?_⟩,⟨hb.os,hb.tape,hb.output,hb.size,fun k hk=>absurd hk (bt9 k),hb.drawn⟩,fun q hq _=>⟨hb.block q hq,rfl⟩,fun id ob q hl hq=>?_,fun id hid=>absurd hid bx8⟩
 · obtain ⟨_,rfl⟩:=ji ho1
   simp only[aa.dim,bsy,bt7]at hd;obtain⟨rfl,rfl,rfl⟩:=hd;exact⟨bt2 _,fun _=>by simp⟩
 · obtain ⟨rfl,rfl⟩:=ji hl
   rcases hok with⟨h1,h2⟩|⟨h1,h2⟩
   · exact⟨hs,bt6 _, .inl ⟨by simpa using h1,[],by simpa using h2,fun i j hi=>by omega⟩⟩
   exact⟨hs,bt6 _, .inr ⟨.inr rfl,by simpa using h1,by simpa using h2⟩⟩
 · obtain ⟨rfl,_⟩:=ji hl
   have hq':bk q:=by simpa using hq
   show c.imm q=none
   cases hc:c.imm q with
   |none=>rfl
   |some ob=>have:=him q ob hc;have:=hat q hq';omega
 obtain⟨rfl,_⟩:=ji hl;have hq':bk q:=by simpa using hq
 exact .inl (hat q hq')
def HE(nt:Nat)(st:HSt)(Q:HSt->Prop):Prop:=∀w0 m0 a w,Rel w0 m0 nt st.den a w->∃st':HSt,Q st'/\Rel w0 m0 nt st'.den a w
def m8{nt:Nat}{st:HSt}{Q:HSt->Prop}(h:Q st):HE nt st Q:=fun _ _ _ _ hr=>⟨st,h,hr⟩
def ayr {ro:Option Nat} {P:Program} {nt:Nat} {c:Code} {st:HSt} {Q:Exit->HSt->Prop} (h:HW (ro:=ro) P nt c st fun e s1=>HE nt s1 (Q e)):HW (ro:=ro) P nt c st Q:=fun w0 m0 a w hr=>by
 refine wpIn_mono (h w0 m0 a w hr) ?_;rintro e a' w' ⟨s1,h1,h2⟩;exact h1 w0 m0 a' w' h2
end
section
open Go.RowKit
abbrev AS:=BitVec 32
abbrev asI(s:AS):Int:=(s.toNat:Int)
def asC(s:AS):PV:=.raw (.int .u32 (asI s))
def apj{n:Int}(h0:0<=n)(h1:n<4294967296):IntKind.wrap .u32 n=n:=qx (by simp only[inR,ui,x8];omega)
def a6v (s:AS):asI s<4294967296:=by
 have:=s.isLt;unfold asI;omega
def tj(s:AS):0<=asI s:=bv7 _
def va (s:AS):BitVec.ofInt 32 (asI s)=s:=by
 unfold asI;rw[BitVec.ofInt_natCast,BitVec.ofNat_toNat,BitVec.setWidth_eq]
def cb {a b:AS}:asI a=asI b<->a=b:=by
 unfold asI;rw[Int.ofNat_inj];exact BitVec.toNat_inj
def acq(s:AS):IntKind.wrap .u32 (s.toNat:Int)=asI s:=apj (tj s) (a6v s)
def it (a b:AS):bu .and .u32 (asI a) (asI b)=asI (a&&&b):=by
 show IntKind.wrap .u32 ((BitVec.ofInt 32 (asI a)&&&BitVec.ofInt 32 (asI b)).toNat:Int)=_;rw[va,va,acq]
def bOr (a b:AS):bu .or .u32 (asI a) (asI b)=asI (a|||b):=by
 show IntKind.wrap .u32 ((BitVec.ofInt 32 (asI a)|||BitVec.ofInt 32 (asI b)).toNat:Int)=_;rw[va,va,acq]
def mc (a b:AS):bu .andNot .u32 (asI a) (asI b)=asI (a&&&~~~b):=by
 show IntKind.wrap .u32 ((BitVec.ofInt 32 (asI a)&&&~~~BitVec.ofInt 32 (asI b)).toNat:Int)=_;rw[va,va,acq]
def a0o (a:AS) (n:Nat):(asI a).fdiv (2^(min n 32))=asI (a>>>n):=by
 have e:(2:Int)^(min n 32)=((2^(min n 32):Nat):Int):=by rw[Int.natCast_pow];rfl
 rw[e];unfold asI;rw[bwj _ (bv7 _),<- Int.natCast_ediv,bvw,bvq];by_cases h:n<=32
 · rw[bua h]
 rw[Nat.min_eq_right bx5];have h1:=a.isLt;have h2:2^32<=2^n:=bum bx5 bx5;rw[Nat.div_eq_of_lt bx5,Nat.div_eq_of_lt (bvt bx5 h2)]
def a0j (a:AS) (n:Nat):IntKind.wrap .u32 (asI a*2^(min n 32))=asI (a<<<n):=by
 have e:asI a*(2:Int)^(min n 32)=((a.toNat*2^(min n 32):Nat):Int):=by rw[Int.natCast_mul,Int.natCast_pow];rfl
 rw[e]
 have hw:∀m:Nat,IntKind.wrap .u32 (m:Int)=((m%4294967296:Nat):Int):=by
  intro m;simp[IntKind.wrap,IntKind.signed,IntKind.bits]
 rw[hw];unfold asI;rw[BitVec.toNat_shiftLeft,Nat.shiftLeft_eq];by_cases h:n<=32
 · rw[bua h]
 rw[Nat.min_eq_right bx5];have h1:a.toNat*2^32%2^32=0:=Nat.mul_mod_left _ _
 have h2:a.toNat*2^n%2^32=0:=by
  obtain⟨k,rfl⟩:∃k,n=k+32:=⟨n-32,by omega⟩;rw[Nat.pow_add,<- Nat.mul_assoc];exact Nat.mul_mod_left _ _
 have h1:a.toNat*2^32%4294967296=0:=h1;rw[h1,h2]
end
section
structure Fd where
 lhs:AS
 rhs:AS
instance:Inhabited Fd:=⟨⟨0,0⟩⟩
theorem Fd.eq_iff{a b:Fd}:a=b<->a.lhs=b.lhs/\a.rhs=b.rhs:=by cases a;cases b;simp
instance:DecidableEq Fd:=fun a b=>decidable_of_iff _ (Fd.eq_iff (a:=a) (b:=b)).symm
def Fd.c (x:Fd):Nat->PV
 |0=>asC x.lhs
 |1=>asC x.rhs
 |_=>.any
def sub(a b:AS):Prop:=a&&&~~~b=0
instance:DecidablePred fun p:AS×AS=>sub p.1 p.2:=fun p=>inferInstanceAs (Decidable (_=_))
instance {a b:AS}:Decidable (sub a b):=inferInstanceAs (Decidable (_=_))
section
variable {a b:AS}
def ai:sub a b<->∀i,i<32->a.getLsbD i=true->b.getLsbD i=true:=by
 unfold sub;constructor
 · intro h i hi ha
   have:=congrArg (fun x:AS=>x.getLsbD i) h;simp only[bta,bu9,hi,ha,decide_true,bu0]at this;simpa using this
 intro h;apply bu7;intro i hi;have:=h i hi;simp only[bta,bu9,hi,decide_true,bu0];cases ha:a.getLsbD i<;>cases hb:b.getLsbD i<;>simp_all
def dw(a:AS):sub a a:=ai.2 fun _ _ h=>h
def bz{c:AS}(h:sub a b)(k:sub b c):sub a c:=ai.2 fun i hi ha=>ai.1 k i hi (ai.1 h i hi ha)
def wo:sub a (a|||b):=ai.2 fun i hi ha=>by simp[ha]
def a5p:sub b (a|||b):=ai.2 fun i hi ha=>by simp[ha]
def a1h {c:AS} (h:sub a c) (k:sub b c):sub (a|||b) c:=ai.2 fun i hi ha=>by
 rw[buy,buk]at ha
 rcases ha with ha|ha
 · exact ai.1 h i hi ha
 exact ai.1 k i hi ha
def d7 (h:sub a b) (k:sub b a):a=b:=by
 apply bu7;intro i hi;have h1:=ai.1 h i hi;have h2:=ai.1 k i hi;cases ha:a.getLsbD i<;>cases hb:b.getLsbD i<;>simp_all
def azn (h:sub a b):a.toNat<=b.toNat:=by
 have e:a|||b=b:=d7 (a1h h (dw b)) a5p
 have:a.toNat<=(a|||b).toNat:=by rw[BitVec.toNat_or];exact Nat.left_le_or
 rwa [e]at this
def vz (h:sub a b) (hne:a≠b):a.toNat<b.toNat:=by
 rcases bvx (azn h)with h|h
 · exact h
 exact absurd (bu2 h) hne
def aiy:sub a b<->a&&&b=a:=by
 rw[ai];constructor
 · intro h
   apply bu7;intro i hi;have:=h i hi;rw[bta];cases ha:a.getLsbD i<;>simp_all
 intro h i hi ha;have:=congrArg (fun x:AS=>x.getLsbD i) h;simp only[bta,ha,bu0]at this;exact this
def gn(s:AS)(f:Fd):AS:=if sub f.lhs s then s|||f.rhs else s
def fh(l:List Fd)(s:AS):AS:=l.foldl gn s
variable {s:AS}
def adw {f:Fd}:sub s (gn s f):=by
 unfold gn;split
 · exact wo
 exact dw s
def qf:∀{l:List Fd} {s:AS},sub s (fh l s)
 | [],s=>dw s
 |f::l,s=>bz adw (qf (l:=l) (s:=gn s f))
def clF (l:List Fd):Nat->AS->AS
 |0,s=>s
 |n+1,s=>if fh l s=s then s else clF l n (fh l s)
def clo(l:List Fd)(s:AS):AS:=clF l 4294967296 s
variable {l:List Fd}
def anp:∀{n m:Nat} {s:AS},4294967296-s.toNat<=n->4294967296-s.toNat<=m->clF l n s=clF l m s
 |0,m,s,hn,hm=>by have:=s.isLt;omega
 |n+1,0,s,hn,hm=>by have:=s.isLt;omega
 | n+1,m+1,s,hn,hm=>by
  unfold clF;split
  · rfl
  rename_i hne;have:=vz (qf (l:=l) (s:=s)) (fun e=>hne e.symm);exact anp bx5 bx5
def ah4 (h:fh l s=s):clo l s=s:=by
 show clF l (4294967295+1) s=s;unfold clF;rw[if_pos h]
def b2l:clo l (fh l s)=clo l s:=by
 by_cases h:fh l s=s
 · rw[h]
 have e:clo l s=clF l 4294967295 (fh l s):=by
  show clF l (4294967295+1) s=_;rw[clF,if_neg h]
 rw[e];have:=vz (qf (l:=l) (s:=s)) (fun e=>h e.symm);exact anp bx5 bx5
def afh:∀{n:Nat} {s:AS},4294967296-s.toNat<=n->fh l (clF l n s)=clF l n s
 |0,s,hn=>by have:=s.isLt;omega
 | n+1,s,hn=>by
  unfold clF;split
  · assumption
  rename_i hne;have:=vz (qf (l:=l) (s:=s)) (fun e=>hne e.symm);exact afh bx5
def aex:fh l (clo l s)=clo l s:=afh bx5
def b1o:∀{n:Nat} {s:AS},sub s (clF l n s)
 |0,s=>dw s
 | n+1,s=>by
  unfold clF;split
  · exact dw s
  exact bz qf b1o
def jf:sub s (clo l s):=b1o
def pw(l:List Fd)(s:AS):Prop:=∀f∈l,sub f.lhs s->sub f.rhs s
def u6:∀{l:List Fd} {s:AS},fh l s=s<->pw l s
 | [],s=>⟨fun _ f hf=>(by cases hf),fun _=>rfl⟩
 | f :: l,s=>by
  constructor
  · intro h
    have h1:gn s f=s:=d7 (by have:=qf (l:=l) (s:=gn s f);rw[show fh l (gn s f)=s from h]at this;exact this) adw
    have h2:fh l s=s:=by
     have:fh l (gn s f)=s:=h;rwa [h1]at this
    intro g hg
    rcases btd.1 hg with rfl|hg
    · intro hl
      rw[gn,if_pos hl]at h1;rw[<- h1];exact a5p
    exact u6.1 h2 g hg
  intro h
  have h1:gn s f=s:=by
   unfold gn;split
   · rename_i hl
     exact d7 (a1h (dw s) (h f (buc ..) hl)) wo
   rfl
  show fh l (gn s f)=s;rw[h1];exact u6.2 fun g hg=>h g (bub _ hg)
def ae0:∀{l:List Fd} {s t:AS},pw l t->sub s t->sub (fh l s) t
 | [],s,t,_,h=>h
 | f :: l,s,t,ht,h=>ae0 (l:=l) (fun g hg=>ht g (bub _ hg)) (by
  unfold gn;split
  · rename_i hl
    exact a1h h (ht f (buc ..) (bz hl h))
  exact h)
def art {t:AS} (ht:pw l t):∀{n:Nat} {s:AS},sub s t->sub (clF l n s) t
 |0,s,h=>h
 | n+1,s,h=>by
  unfold clF;split
  · exact h
  exact art ht (ae0 ht h)
def n9{t:AS}(ht:pw l t)(h:sub s t):sub (clo l s) t:=art ht h
def gr:pw l (clo l s):=u6.1 aex
def wc{t:AS}(h:sub s t):sub (clo l s) (clo l t):=n9 gr (bz h jf)
def b2e:clo l (clo l s)=clo l s:=ah4 aex
end
end
section
abbrev pI(a:Int):PC:=.one (.raw (.int .i64 a))
abbrev pB(b:Bool):PC:=.one (.raw (.bool b))
abbrev pP(x:PV):PC:=.one x
abbrev pA(s:AS):PC:=.one (.raw (.int .u32 (asI s)))
abbrev fdl(l:List Fd):PV:=psl 2 Fd.c l
abbrev asl(l:List AS):PV:=psl 1 (fun s _=>asC s) l
abbrev vI(a:Int):HR:=bp (.raw (.int .i64 a))
abbrev vA(s:AS):HR:=bp (.raw (.int .u32 (asI s)))
def b0u {l:List Fd} {s:AS} {i:Nat} (hi:i<l.length):fh (l.take (i+1)) s=gn (fh (l.take i) s) (l.getD i default):=by
 unfold fh;rw[List.take_succ,bt0 hi,btr,bt1,bt0 hi];rfl
def ep {a b:AS}:bu .andNot .u32 (asI a) (asI b)=0<->sub a b:=by
 rw[mc,show(0:Int)=asI 0 from rfl,cb];exact Iff.rfl
def bi3 {S:AS} {f:Fd} (h:bu .andNot .u32 (asI f.lhs) (asI S)=0):bu .or .u32 (asI S) (asI f.rhs)=asI (gn S f):=by
 rw[bOr,gn,if_pos (ep.1 h)]
def bh3{S:AS}{f:Fd}(h:¬bu .andNot .u32 (asI f.lhs) (asI S)=0):gn S f=S:=if_neg fun e=>h (ep.2 e)
def inU(n:Int)(f:Fd):Bool:=decide ((f.lhs|||f.rhs)>>>n.toNat=0)
def aw(n:Int)(l:List Fd):Int:=if n<0\/16<n then 7 else if 64<l.length then 3 else if l.all (inU n)=true then 0 else 1
def a93 {n:Int} {f:Fd}:(bu .or .u32 (asI f.lhs) (asI f.rhs)).fdiv (2^(min n.toNat 32))=0<->inU n f=true:=by
 rw[bOr,a0o,show(0:Int)=asI 0 from rfl,cb];unfold inU;rw[decide_eq_true_iff]
def df {k:IntKind} {a b:Int} (h:a=b):CoR (bp (.raw (.int k a))) (bp (.raw (.int k b))):=by
 rw[h];exact CoR.refl _
def li(n:Nat):AS:=(List.range n).foldl (fun s i=>s|||((1:AS)<<<i)) 0
def a6(n:Int):AS:=li (min n.toNat 32)
def afc (i:Nat):li (i+1)=li i|||((1:AS)<<<i):=by
 unfold li;rw[bu3,btr];rfl
def aya (i:Nat):bu .or .u32 (asI (li i)) (IntKind.wrap .u32 (1*2^(min i 32)))=asI (li (i+1)):=by
 have e:IntKind.wrap .u32 (1*2^(min i 32))=asI ((1:AS)<<<i):=a0j 1 i;rw[e,bOr,afc]
end
section
abbrev pU8(a:Int):PC:=.one (.raw (.int .u8 a))
abbrev pS(s:ByteArray):PC:=.one (.raw (.string s))
abbrev vU8(a:Int):HR:=bp (.raw (.int .u8 a))
abbrev vB(b:Bool):HR:=bp (.raw (.bool b))
abbrev vS(s:ByteArray):HR:=bp (.raw (.string s))
abbrev vP(x:PV):HR:=bp x
abbrev Lim:Nat:=68719476736
structure Val where
 kind:Int
 num:Int
 str:ByteArray
instance:Inhabited Val:=⟨⟨0,0,⟨#[]⟩⟩⟩
theorem Val.eq_iff{a b:Val}:a=b<->a.kind=b.kind/\a.num=b.num/\a.str=b.str:=by cases a;cases b;simp
instance:DecidableEq Val:=fun a b=>decidable_of_iff _ (Val.eq_iff (a:=a) (b:=b)).symm
def Val.c (v:Val):Nat->PV
 |0=>.raw (.int .i64 v.kind)
 |1=>.raw (.int .i64 v.num)
 |2=>.raw (.string v.str)
 |_=>.any
abbrev vals(l:List Val):PV:=psl 3 Val.c l
abbrev Val.pc(v:Val):PC:=.agg [v.c 0,v.c 1,v.c 2]
structure Row where
 id:Int
 vals:List Val
instance:Inhabited Row:=⟨⟨0,[]⟩⟩
theorem Row.eq_iff{a b:Row}:a=b<->a.id=b.id/\a.vals=b.vals:=by cases a;cases b;simp
instance:DecidableEq Row:=fun a b=>decidable_of_iff _ (Row.eq_iff (a:=a) (b:=b)).symm
def Row.c (r:Row):Nat->PV
 |0=>.raw (.int .i64 r.id)
 |1=>Hx.vals r.vals
 |_=>.any
abbrev rows(l:List Row):PV:=psl 2 Row.c l
abbrev Row.pc(r:Row):PC:=.agg [r.c 0,r.c 1]
def awm (s:ByteArray):Nat->PV
 |0=>.raw (.string s)
 |_=>.any
instance:Inhabited ByteArray:=⟨⟨#[]⟩⟩
abbrev am2(l:List ByteArray):PV:=psl 1 awm l
def bql (s:UInt8):Nat->PV
 |0=>.raw (.int .u8 (s.toNat:Int))
 |_=>.any
abbrev u8s(l:List UInt8):PV:=psl 1 bql l
def bq5 (l:List UInt8):Nat->PV
 |0=>u8s l
 |_=>.any
abbrev bpa(l:List (List UInt8)):PV:=psl 1 bq5 l
structure Tbl where
 name:ByteArray
 attrs:List ByteArray
 rows:List Row
instance:Inhabited Tbl:=⟨⟨⟨#[]⟩,[],[]⟩⟩
theorem Tbl.eq_iff{a b:Tbl}:a=b<->a.name=b.name/\a.attrs=b.attrs/\a.rows=b.rows:=by cases a;cases b;simp
instance:DecidableEq Tbl:=fun a b=>decidable_of_iff _ (Tbl.eq_iff (a:=a) (b:=b)).symm
def Tbl.c (t:Tbl):Nat->PV
 |0=>.raw (.string t.name)
 |1=>am2 t.attrs
 |2=>Hx.rows t.rows
 |_=>.any
abbrev bq4(l:List Tbl):PV:=psl 3 Tbl.c l
abbrev Tbl.pc(t:Tbl):PC:=.agg [t.c 0,t.c 1,t.c 2]
abbrev DB:=List Tbl
abbrev brq(d:DB):PC:=.agg [bq4 d]
structure Chg where
 kind:Int
 name:ByteArray
 table:Tbl
 row:Row
 attr:Int
 value:Val
instance:Inhabited Chg:=⟨⟨0,⟨#[]⟩,default,default,0,default⟩⟩
theorem Chg.eq_iff{a b:Chg}:a=b<->a.kind=b.kind/\a.name=b.name/\a.table=b.table/\a.row=b.row/\a.attr=b.attr/\a.value=b.value:=by cases a;cases b;simp
instance:DecidableEq Chg:=fun a b=>decidable_of_iff _ (Chg.eq_iff (a:=a) (b:=b)).symm
def Chg.c (x:Chg):Nat->PV
 |0=>.raw (.int .i64 x.kind)
 |1=>.raw (.string x.name)
 |2=>x.table.c 0
 |3=>x.table.c 1
 |4=>x.table.c 2
 |5=>x.row.c 0
 |6=>x.row.c 1
 |7=>.raw (.int .i64 x.attr)
 |8=>x.value.c 0
 |9=>x.value.c 1
 |10=>x.value.c 2
 |_=>.any
abbrev bh6(l:List Chg):PV:=psl 11 Chg.c l
abbrev Chg.pc(x:Chg):PC:=.agg [x.c 0,x.c 1,x.c 2,x.c 3,x.c 4,x.c 5,x.c 6,x.c 7,x.c 8,x.c 9,x.c 10]
def txC (l:List Chg):Nat->PV
 |0=>bh6 l
 |_=>.any
abbrev txs(l:List (List Chg)):PV:=psl 1 txC l
structure a7z where
 attrs:UInt8
 gap:UInt8
 rows:List (List UInt8)
instance:Inhabited a7z:=⟨⟨0,0,[]⟩⟩
def a7z.c (x:a7z):Nat->PV
 |0=>.raw (.int .u8 (x.attrs.toNat:Int))
 |1=>.raw (.int .u8 (x.gap.toNat:Int))
 |2=>bpa x.rows
 |_=>.any
abbrev a7z.pc(x:a7z):PC:=.agg [x.c 0,x.c 1,x.c 2]
structure Opn where
 kind:UInt8
 name:UInt8
 t:a7z
 id:Int
 vals:List UInt8
 attr:Int
 value:UInt8
instance:Inhabited Opn:=⟨⟨0,0,default,0,[],0,0⟩⟩
def Opn.c (x:Opn):Nat->PV
 |0=>.raw (.int .u8 (x.kind.toNat:Int))
 |1=>.raw (.int .u8 (x.name.toNat:Int))
 |2=>x.t.c 0
 |3=>x.t.c 1
 |4=>x.t.c 2
 |5=>.raw (.int .i64 x.id)
 |6=>u8s x.vals
 |7=>.raw (.int .i64 x.attr)
 |8=>.raw (.int .u8 (x.value.toNat:Int))
 |_=>.any
abbrev Opn.pc(x:Opn):PC:=.agg [x.c 0,x.c 1,x.c 2,x.c 3,x.c 4,x.c 5,x.c 6,x.c 7,x.c 8]
abbrev bsk(l:List Opn):PV:=psl 9 Opn.c l
structure Stt where
 done:List (List Chg)
 undone:List (List Chg)
 opn:Bool
 now:List Chg
instance:Inhabited Stt:=⟨⟨[],[],false,[]⟩⟩
def Stt.c (x:Stt):Nat->PV
 |0=>txs x.done
 |1=>txs x.undone
 |2=>.raw (.bool x.opn)
 |3=>bh6 x.now
 |_=>.any
abbrev Stt.pc(x:Stt):PC:=.agg [x.c 0,x.c 1,x.c 2,x.c 3]
def dn{α:Type}[Inhabited α](l:List α)(i:Nat)(h:i<l.length):l.getD i default=l[i]:=by simp[List.getD,bt0 h]
end
section
open Go.Proofs
def rp:goodFn bxr 76:=wgx Tryz.func76
def bx6{p:Prop}(h:p:=by assumption):p:=h
def rg(l:List Fd)(s0:AS):a7 bxr 76 [pP (fdl l),pA s0] (ae [pA (clo l s0)]):=by
 refine hpx (nt:=29) Tryz.func76 ?_;refine dt ?_;refine e9 0 rfl fun hlen=>?_;refine w_4 ?_;refine am (ι:=AS) (ka 0 kn) km (fun s=>⟨[(1,some (vA s))],[]⟩) (fun s=>clo l s=clo l s0) (fun s=>4294967296-s.toNat) (s0) (rfl) kk ?_;rintro s hs;refine qb ?_;refine bw (ka 0 (ka 5 (ka 9 (ka 10 kn)))) km (fun i=>⟨[(11,some (vI i)),(1,some (vA (fh (l.take i) s)))],[]⟩) l.length kk ?_;rintro i hi;refine w_5 ?_;refine hcd ?_ ?_<;>intro h0
 ·
  refine w_7 ?_;refine m9 0 ?_;refine cr ?_;refine hcd ?_ ?_<;>intro h1
  · refine gv ?_;exact lpx (i+1) ⟨⟨zy,⟨_,rfl,(by rw[b0u bx5];first|(rw[bh3 bx6];exact CoR.refl _)|(simp only[btc];rw[bi3 bx6];exact CoR.refl _))⟩,tt⟩,trivial⟩
  refine w_5 ?_;exact lpx (i+1) ⟨⟨zy,⟨_,rfl,(by rw[b0u bx5];first|(rw[bh3 bx6];exact CoR.refl _)|(simp only[btc];rw[bi3 bx6];exact CoR.refl _))⟩,tt⟩,trivial⟩
 obtain rfl:i=l.length:=by omega
 refine w_7 ?_;refine hcd ?_ ?_<;>intro h2
 ·
  refine w_5 ?_;refine hrr ?_
  have e2:fh l s=s:=by
   have:=cb.1 bx6;rwa [btb]at this
  exact f9 rfl rfl (⟨cci (by rw[btb,e2,<- hs,ah4 e2]),trivial⟩)
 refine fk ?_;refine⟨fh l s, ?_, ?_, ?_⟩
 · show clo l (fh l s)=clo l s0
   rw[b2l];exact hs
 · have hne:¬fh l s=s:=fun e=>absurd (congrArg asI e) (by rw[btb]at *;assumption)
   have:=vz (qf (l:=l) (s:=s)) (fun e=>hne e.symm);have:=(fh l s).isLt;show 4294967296-(fh l s).toNat<4294967296-s.toNat;omega
 exact⟨⟨⟨_,rfl,(by rw[btb];exact CoR.refl _)⟩,tt⟩,trivial⟩
def qj:goodFn bxr 69:=wgx Tryz.func69
def tg (n:Int) (l:List Fd):a7 bxr 69 [pI n,pP (fdl l)] (ae [pI (aw n l)]):=by
 refine hpx (nt:=31) Tryz.func69 ?_;refine dt ?_;refine e9 1 rfl fun hlen=>?_;refine w_9 ?_;refine al rfl rfl ?_ ?_<;>intro r0
 ·
  have h0:=tz1 r0;(iterate 2 refine k9 (gtf r0) ?_);refine w_7 ?_
  exact hx8 rfl rfl rfl (⟨cci (by rw[aw,if_pos bx5]),trivial⟩)
 have h0:=tz2 r0;(iterate 2 refine qy ?_ (hg:=(gff r0)));refine w_2 ?_;refine ax _ rfl ?_ ?_<;>intro r1
 · have h1:=tz1 (bn r0 r1);refine v_4 ?_;exact⟨cci (by rw[aw,if_pos bx5]),trivial⟩
 have h1:=tz2 (bn r0 r1);refine w_8 ?_;refine hcd ?_ ?_<;>intro h2
 · refine v_4 ?_;exact⟨cci (by rw[aw,if_neg bx5,if_pos bx5]),trivial⟩
 refine w_9 ?_;refine am (ι:=Nat) (ka 0 (ka 16 (ka 17 kn))) km (fun i=>⟨[(18,some (vI i))],[]⟩) (fun i=>i<=l.length/\∀j,j<i->inU n (l.getD j default)=true) (fun i=>l.length-i) (0) (⟨bt6 _,fun j hj=>absurd hj (bt9 j)⟩) kk ?_;rintro i ⟨hi,hI⟩;refine w_5 ?_;refine hcd ?_ ?_<;>intro h3
 ·
  refine w_7 ?_;refine m9 0 ?_;refine mq ?_;refine hcn ?_ ?_<;>intro h4
  · refine v_4 ?_;exact⟨cci (by rw[aw,if_neg bx5,if_neg bx5,if_neg (fun e=>absurd (awq (l:=l) (p:=inU n) (i:=i) bx5 (by rw[btf];exact fun e=>absurd (a93.2 e) bx6)) (by rw[e];decide))]),trivial⟩
  refine w_5 ?_;refine lpz (i+1) kk ?_;refine⟨by omega,fun j hj=>?_⟩
  rcases bvx (bwd hj)with h|h
  · exact hI j h
  subst h;exact a93.1 bx6
 obtain rfl:i=l.length:=by omega
 refine v_5 ?_;exact⟨cci (by rw[aw,if_neg bx5,if_neg bx5,if_pos (av8 fun j hj=>hI j hj)]),trivial⟩
def bjz (n:Int):a7 bxr 81 [pI n] (ae [pA (a6 n)]):=by
 refine hpx (nt:=19) Tryz.func81 ?_;refine qb ?_;refine bw (ka 0 kn) km (fun i=>⟨[(4,some (vI i)),(3,some (vA (li i)))],[]⟩) (min n.toNat 32) kk ?_;rintro i hi;refine w_7 ?_;refine al rfl rfl ?_ ?_<;>intro r0
 ·
  have h0:=tz1 r0;(iterate 2 refine qy ?_ (hg:=(gtt r0)));refine w_2 ?_;refine ax _ rfl ?_ ?_<;>intro r1
  · have h1:=tz1 (br r0 r1);refine jk ?_;exact lpx (i+1) ⟨⟨zy,⟨_,rfl,(by simp only[btc];exact df (aya i))⟩,tt⟩,trivial⟩
  have h1:=tz2 (br r0 r1);obtain rfl:i=min n.toNat 32:=by omega
  refine v_6 ?_;exact CoL.refl _
 have h0:=tz2 r0;obtain rfl:i=min n.toNat 32:=by omega
 (iterate 2 refine k9 (gft r0) ?_);refine w_9 ?_
 exact hx8 rfl rfl rfl (CoL.refl _)
end
section
def er (i k:Nat) (hk:k<32):((1:AS)<<<i).getLsbD k=decide (k=i):=by
 rw[BitVec.getLsbD_shiftLeft];by_cases h:k<i
 · simp[h,hk];omega
 by_cases e:k=i
 · subst e;simp[hk]
 have:0<k-i:=by omega
 simp[hk,h,e,BitVec.getLsbD_one];omega
def lq:∀(n k:Nat),k<32->(li n).getLsbD k=decide (k<n)
 |0,k,hk=>by simp[li]
 | n+1,k,hk=>by
  rw[afc,buy,lq n k hk,er n k hk];by_cases h:k<n
  · simp[h];omega
  by_cases e:k=n
  · simp[e]
  simp[h,e];omega
def b62{s:AS}{n:Nat}:s>>>n=0<->∀k,k<32->n<=k->s.getLsbD k=false:=by
 constructor
 · intro h k hk hn
   have:=congrArg (fun x:AS=>x.getLsbD (k-n)) h;simp only[bwk]at this;rw[show n+(k-n)=k by omega]at this;simpa using this
 intro h;apply bu7;intro i hi;rw[bwk];by_cases hk:n+i<32
 · rw[h (n+i) hk bx5];simp
 rw[BitVec.getLsbD_of_ge _ _ bx5];simp
def s8{s:AS}{n:Nat}(hn:n<=32):sub s (li n)<->s>>>n=0:=by
 rw[ai,b62];constructor
 · intro h k hk hle
   rw[btf];intro e;have:=h k hk e;rw[lq n k hk,decide_eq_true_iff]at this;omega
 intro h k hk e;rw[lq n k hk,decide_eq_true_iff];apply Nat.lt_of_not_le;intro hle;rw[h k hk hle]at e;cases e
def a38 {n:Int} (hn:0<=n) (h16:n<=16) {f:Fd}:inU n f=true<->sub f.lhs (a6 n)/\sub f.rhs (a6 n):=by
 unfold inU a6;rw[decide_eq_true_iff,bua bx5,<- s8 bx5];exact⟨fun h=>⟨bz wo h,bz a5p h⟩,fun h=>a1h h.1 h.2⟩
abbrev Fd.pc(f:Fd):PC:=.agg [f.c 0,f.c 1]
def imp(l:List Fd)(f:Fd):Bool:=decide (sub f.rhs (clo l f.lhs))
end
section
open Go.Proofs
def apm:goodFn bxr 24:=wgx Tryz.func24
def b32 (l:List Fd) (x:Fd):a7 bxr 24 [pP (fdl l),x.pc] (ae [pB (imp l x)]):=by
 refine hpx (nt:=13) Tryz.func24 ?_;refine sx7 ?_;refine m9 0 ?_;refine w_9 ?_;refine qcx rp (rg l x.lhs) ?_;refine v_5 ?_;exact⟨ccb (decide_eq_decide.2 ep),trivial⟩
end
end Go.Hx
