/- A part of the proof: HxEnv Hx19 Hx23 Cs1 Cs3 Ty1 V1 Cs4 V2. -/
import Derived.Deep.AppendLies
import Derived.Laws.CopyRow
import Derived.Shelf.Spec.SlicesInsertGrow
import Derived.Test.YtnlcekpflogjkaaGreatDoorProg
import Derived.Test.YtnlcekpflogjkaaGreatDoorTy12
set_option linter.all false
set_option maxRecDepth 100000
section
namespace Go.Hx
open Go.Proofs
noncomputable abbrev bxn:=Tryz.prog
def ym:List (Nat×Nat):=[(22,82),(25,131),(28,61),(32,9),(33,81),(38,50),(46,52),(79,84),(82,5),(96,151),(124,3),(136,192),(141,124),(155,79),(156,162),(162,163),(184,4),(233,235),(273,274),(294,28)]
def a6e:List (Nat×TI):=[(1,⟨.func,1,8,some [.nilFunc],false,false,true⟩),(2,⟨.int .i64,1,8,some [.int .i64 0],false,false,true⟩),(3,⟨.int .i64,1,8,some [.int .i64 0],false,false,true⟩),(4,⟨.bool,1,1,some [.bool false],false,false,true⟩),(5,⟨.int .u8,1,1,some [.int .u8 0],false,false,true⟩),(6,⟨.int .u8,1,1,some [.int .u8 0],false,false,true⟩),(7,⟨.struct [(0,2,false),(1,3,false),(2,4,false),(3,6,false)],4,24,some [.int .i64 0, .int .i64 0, .bool false, .int .u8 0],false,false,false⟩),(8,⟨.struct [(0,2,false),(1,3,false),(2,4,false),(3,6,false)],4,24,some [.int .i64 0, .int .i64 0, .bool false, .int .u8 0],false,false,false⟩),(9,⟨.string,1,16,some [.string ⟨#[]⟩],false,false,true⟩),(21,⟨.int .i32,1,4,some [.int .i32 0],false,false,true⟩),(23,⟨.struct [(0,5,false),(1,5,false),(2,22,false)],3,32,some [.int .u8 0, .int .u8 0, .slice none 0 0],false,false,false⟩),(24,⟨.struct [(0,5,false),(1,5,false),(2,22,false)],3,32,some [.int .u8 0, .int .u8 0, .slice none 0 0],false,false,false⟩),(26,⟨.struct [(0,5,false),(1,25,false)],2,32,some [.int .u8 0, .slice none 0 0],false,false,false⟩),(27,⟨.struct [(0,5,false),(1,25,false)],2,32,some [.int .u8 0, .slice none 0 0],false,false,false⟩),(34,⟨.struct [(0,9,false),(1,32,false),(2,33,false)],3,64,some [.string ⟨#[]⟩, .slice none 0 0, .slice none 0 0],false,false,false⟩),(35,⟨.struct [(0,9,false),(1,32,false),(2,33,false)],3,64,some [.string ⟨#[]⟩, .slice none 0 0, .slice none 0 0],false,false,false⟩),(39,⟨.int .i64,1,8,some [.int .i64 0],false,false,true⟩),(44,⟨.struct [(0,27,false),(2,25,false)],3,56,some [.int .u8 0, .slice none 0 0, .slice none 0 0],false,false,false⟩),(45,⟨.struct [(0,27,false),(2,25,false)],3,56,some [.int .u8 0, .slice none 0 0, .slice none 0 0],false,false,false⟩),(49,⟨.int .u32,1,4,some [.int .u32 0],false,false,true⟩),(50,⟨.int .u32,1,4,some [.int .u32 0],false,false,true⟩),(51,⟨.struct [(0,50,false),(1,50,false)],2,8,some [.int .u32 0, .int .u32 0],false,false,false⟩),(52,⟨.struct [(0,50,false),(1,50,false)],2,8,some [.int .u32 0, .int .u32 0],false,false,false⟩),(61,⟨.struct [(0,50,false),(1,50,false)],2,8,some [.int .u32 0, .int .u32 0],false,false,false⟩),(80,⟨.struct [(0,2,false),(1,79,false)],2,32,some [.int .i64 0, .slice none 0 0],false,false,false⟩),(81,⟨.struct [(0,2,false),(1,79,false)],2,32,some [.int .i64 0, .slice none 0 0],false,false,false⟩),(83,⟨.struct [(0,3,false),(1,2,false),(2,9,false)],3,32,some [.int .i64 0, .int .i64 0, .string ⟨#[]⟩],false,false,false⟩),(84,⟨.struct [(0,3,false),(1,2,false),(2,9,false)],3,32,some [.int .i64 0, .int .i64 0, .string ⟨#[]⟩],false,false,false⟩),(118,⟨.func,1,8,some [.nilFunc],false,false,true⟩),(119,⟨.func,1,8,some [.nilFunc],false,false,true⟩),(121,⟨.func,1,8,some [.nilFunc],false,false,true⟩),(130,⟨.struct [(0,5,false),(1,5,false)],2,2,some [.int .u8 0, .int .u8 0],false,false,false⟩),(131,⟨.struct [(0,5,false),(1,5,false)],2,2,some [.int .u8 0, .int .u8 0],false,false,false⟩),(137,⟨.func,1,8,some [.nilFunc],false,false,true⟩),(138,⟨.func,1,8,some [.nilFunc],false,false,true⟩),(140,⟨.func,1,8,some [.nilFunc],false,false,true⟩),(142,⟨.struct [(0,3,false),(1,141,false)],2,32,some [.int .i64 0, .slice none 0 0],false,false,false⟩),(143,⟨.struct [(0,3,false),(1,141,false)],2,32,some [.int .i64 0, .slice none 0 0],false,false,false⟩),(150,⟨.struct [(0,4,false),(1,3,false),(2,3,false),(3,3,false)],4,32,some [.bool false, .int .i64 0, .int .i64 0, .int .i64 0],false,false,false⟩),(151,⟨.struct [(0,4,false),(1,3,false),(2,3,false),(3,3,false)],4,32,some [.bool false, .int .i64 0, .int .i64 0, .int .i64 0],false,false,false⟩),(154,⟨.pointer 158,1,8,some [.pointer none],false,false,true⟩),(157,⟨.struct [(0,38,false),(1,155,false),(2,156,false),(3,155,false)],4,96,some [.slice none 0 0, .slice none 0 0, .slice none 0 0, .slice none 0 0],false,false,false⟩),(158,⟨.struct [(0,38,false),(1,155,false),(2,156,false),(3,155,false)],4,96,some [.slice none 0 0, .slice none 0 0, .slice none 0 0, .slice none 0 0],false,false,false⟩),(160,⟨.func,1,8,some [.nilFunc],false,false,true⟩),(161,⟨.func,1,8,some [.nilFunc],false,false,true⟩),(163,⟨.map 9 4,1,8,some [.map none],false,false,true⟩),(186,⟨.struct [(0,3,false),(1,124,false)],2,32,some [.int .i64 0, .slice none 0 0],false,false,false⟩),(187,⟨.struct [(0,3,false),(1,124,false)],2,32,some [.int .i64 0, .slice none 0 0],false,false,false⟩),(189,⟨.map 50 124,1,8,some [.map none],false,false,true⟩),(191,⟨.struct [(0,50,false),(1,2,false),(2,2,false)],3,24,some [.int .u32 0, .int .i64 0, .int .i64 0],false,false,false⟩),(192,⟨.struct [(0,50,false),(1,2,false),(2,2,false)],3,24,some [.int .u32 0, .int .i64 0, .int .i64 0],false,false,false⟩),(193,⟨.map 50 195,1,8,some [.map none],false,false,true⟩),(195,⟨.array 2 2,2,16,some [.int .i64 0, .int .i64 0],false,false,false⟩),(197,⟨.map 50 50,1,8,some [.map none],false,false,true⟩),(201,⟨.func,1,8,some [.nilFunc],false,false,true⟩),(202,⟨.func,1,8,some [.nilFunc],false,false,true⟩),(208,⟨.int .u64,1,8,some [.int .u64 0],false,false,true⟩),(216,⟨.func,1,8,some [.nilFunc],false,false,true⟩),(219,⟨.func,1,8,some [.nilFunc],false,false,true⟩),(224,⟨.func,1,8,some [.nilFunc],false,false,true⟩),(234,⟨.struct [(0,3,false),(1,141,false)],2,32,some [.int .i64 0, .slice none 0 0],false,false,false⟩),(235,⟨.struct [(0,3,false),(1,141,false)],2,32,some [.int .i64 0, .slice none 0 0],false,false,false⟩),(250,⟨.func,1,8,some [.nilFunc],false,false,true⟩),(254,⟨.int .i64,1,8,some [.int .i64 0],false,false,true⟩),(262,⟨.int .u64,1,8,some [.int .u64 0],false,false,true⟩),(263,⟨.func,1,8,some [.nilFunc],false,false,true⟩),(274,⟨.array 2 3,2,16,some [.int .i64 0, .int .i64 0],false,false,false⟩),(281,⟨.int .u64,1,8,some [.int .u64 0],false,false,true⟩),(285,⟨.pointer 3,1,8,some [.pointer none],false,false,true⟩),(292,⟨.array 32 5,32,32,some [.int .u8 0, .int .u8 0, .int .u8 0, .int .u8 0, .int .u8 0, .int .u8 0, .int .u8 0, .int .u8 0, .int .u8 0, .int .u8 0, .int .u8 0, .int .u8 0, .int .u8 0, .int .u8 0, .int .u8 0, .int .u8 0, .int .u8 0, .int .u8 0, .int .u8 0, .int .u8 0, .int .u8 0, .int .u8 0, .int .u8 0, .int .u8 0, .int .u8 0, .int .u8 0, .int .u8 0, .int .u8 0, .int .u8 0, .int .u8 0, .int .u8 0, .int .u8 0],false,false,false⟩),(295,⟨.pointer 297,1,8,some [.pointer none],false,false,true⟩),(296,⟨.struct [(0,295,false),(1,82,false)],2,32,some [.pointer none, .slice none 0 0],false,false,false⟩),(297,⟨.struct [(0,295,false),(1,82,false)],2,32,some [.pointer none, .slice none 0 0],false,false,false⟩),(304,⟨.map 274 3,1,8,some [.map none],false,false,true⟩),(312,⟨.pointer 281,1,8,some [.pointer none],false,false,true⟩),(317,⟨.pointer 5,1,8,some [.pointer none],false,false,true⟩),(318,⟨.map 9 3,1,8,some [.map none],false,false,true⟩)]
def agc {α:Type}:List (Nat×α)->Nat->Option α
 | [],_=>none
 |(a,x)::r,n=>bif Nat.beq a n then some x else agc r n
def en:Env:=fun t=>match agc ym t with|some e=>some ⟨.slice e,1,24,some [.slice none 0 0],false,false,true⟩|none=>agc a6e t
def abg {α:Type}:∀{l:List (Nat×α)} {t:Nat} {i:α},agc l t=some i->(t,i)∈l
 | (a,x)::r,t,i,h=>by
  simp only[agc]at h
  cases hb:Nat.beq a t with
  |true=>rw[hb]at h;cases h;rw[btw hb];exact bu5
  |false=>rw[hb]at h;exact btp _ (abg h)
def b5h:a6e.map (fun p=>vf bxn p.1)=a6e.map (fun p=>some p.2):=by kernel_rfl
def b24:ym.map (fun p=>vf bxn p.1)=ym.map (fun p=>some ⟨.slice p.2,1,24,some [.slice none 0 0],false,false,true⟩):=by kernel_rfl
def dw:d7 bxn en:=fun t i h=>by
 unfold en at h
 cases hs:agc ym t with
 |some e=>rw[hs]at h;cases h;exact List.map_inj_left.1 b24 (t,e) (abg hs)
 |none=>rw[hs]at h;exact List.map_inj_left.1 b5h (t,i) (abg h)
def a8i:bxn.follows .mixedOrders=true:=by kernel_rfl
end Go.Hx
namespace Go.Hx
open Go.Proofs
section
variable {ro:Option Nat}{P:Program}{E:Env}{nt:Nat}{ops:Array Oper}{i:Nat}{o:Oper}{st:HSt}{L:List Nat}{K:List Tr->HSt->Prop}{Q:Exit->HSt->Prop}
section
variable {gb:Bool}
def qy {out:Out} (hT:Reg P E nt ops L (st.after o.dst (some out.val) []) fun T sf=>K (⟨i,abl true out.val.ids,looks st.den o,cq st.den o.dst [],gm E st.den o⟩::T) sf) (hi:ops[i]? = some o:=by exact rfl) (hw:be ops st.den o=some gb:=by exact rfl) (hd:d6 nt o.dst=true:=by exact rfl) (hq':hq E true st.den.o (ev st.den) o.op=some out:=by exact rfl) (hg:gb=true:=by exact rfl) (hp:out.pre:=by first|exact trivial|(simp only[k7,inR,w9,a0r];omega)|exact am6 _ _|exact⟨trivial,trivial⟩|exact⟨trivial,bt0 rfl⟩|(try dsimp only)<;>((repeat' apply And.intro)<;>first|trivial|rfl|omega|(simp only[dv,b7];omega)|assumption|exact bt0 rfl)):
 Reg P E nt ops (i::L) st K:=c7 true hi hw hd hq' hg hp hT
def k9(hg:gb=false)(hT:Reg P E nt ops L (st.after o.dst (some (.tup [])) []) fun T sf=>K (⟨i,abl true [],looks st.den o,cq st.den o.dst [],none⟩::T) sf)(hi:ops[i]? = some o:=by exact rfl)(hw:be ops st.den o=some gb:=by exact rfl)(hd:d6 nt o.dst=true:=by exact rfl):Reg P E nt ops (i::L) st K:=ast hi hw hd hg hT
def m9(id:Nat){nw:New}(hT:Reg P E nt ops L (st.after o.dst (some nw.val) [(id,some nw.ob)]) fun T sf=>K (⟨i,⟨id,false,true, .tup [],[id],[id],nw.val.ids++nw.ob.ids⟩,looks st.den o,cq st.den o.dst [(id,some nw.ob)],none⟩::T) sf)(hi:ops[i]? = some o:=by exact rfl)(hw:be ops st.den o=some gb:=by exact rfl)(hd:d6 nt o.dst=true:=by exact rfl)(hq':ha E (ev st.den) id o.op=some nw:=by exact rfl)(hn:jp id st=true:=by exact rfl)(hg:gb=true:=by exact rfl)(hp:nw.pre:=by first|exact trivial|(try dsimp only)<;>((repeat' apply And.intro)<;>first|trivial|rfl|omega|assumption)):Reg P E nt ops (i::L) st K:=wu id hi hw hd hq' hn hg hp hT
def s9{u:Upd}(hT:Reg P E nt ops L (st.after o.dst none [(u.id,some u.ob)]) fun T sf=>K (⟨i,⟨0,false,true, .tup [],[u.id],[],u.ob.ids⟩,looks st.den o,cq st.den o.dst [(u.id,some u.ob)],gm E st.den o⟩::T) sf)(hi:ops[i]? = some o:=by exact rfl)(hw:be ops st.den o=some gb:=by exact rfl)(hd:d6 nt o.dst=true:=by exact rfl)(hq':hs E st.den.o (ev st.den) o.op=some u:=by exact rfl)(hg:gb=true:=by exact rfl)(hp:u.pre:=by first|exact bt0 rfl|(try dsimp only)<;>((repeat' apply And.intro)<;>first|trivial|rfl|omega|(simp only[dv,b7];omega)|assumption|exact bt0 rfl)):Reg P E nt ops (i::L) st K:=anc hi hw hd hq' hg hp hT
variable {p:Prop}
def f9{rs:List ResultVar}{res:List PC}{q:Prop}{l:List HC}{vs:List PC}(h1:a0e E st.den rs=some (p,l))(h2:rg st.den.o l=some (q,vs))(hc:CoL vs res)(hp:p:=by(repeat' apply And.intro)<;>first|trivial|exact bt0 rfl|rfl)(hq:q:=by(repeat' apply And.intro)<;>first|trivial|exact bt0 rfl|rfl):afm E st rs res:=⟨p,l,q,vs,h1,hp,h2,hq,hc⟩
def u9{f:Option a7}{x:a7}(h:f=some x:=by exact rfl):∃y,f=some y/\CoO y x:=⟨x,h,CoO.refl x⟩
def bxa(h:p:=by simp_all):p:=h
def zy{f:Option HR}{x y:HR}(h:f=some y:=by exact rfl)(c:CoR y x:=by first|exact CoR.refl _|exact coi bww|exact cob bxa):∃y,f=some y/\CoR y x:=⟨y,h,c⟩
def l9{a b:Nat}(h:Nat.ble a b=true:=by exact rfl):a<=b:=bt0 h
def qcx{cl:Call}{f:FuncId}{fst caps args vs:List PC}{b:Bool}{res:PR}(hf:goodFn P f)(hpure:a6 P f args res)(hT:Reg P E nt ops L (st.after o.dst (some res.toH) []) fun T sf=>K (⟨i,⟨0,false,true,res,[],[],[]⟩,looks st.den o,cq st.den o.dst [],none⟩::T) sf)(hi:ops[i]? = some o:=by exact rfl)(hw:be ops st.den o=some gb:=by exact rfl)(hd:d6 nt o.dst=true:=by exact rfl)(ho:o.op=.call cl:=by exact rfl)(hc:callee (ev st.den) cl=some (f,fst,caps):=by exact rfl)(hv:ll st.den.o (ev st.den) cl.args.toList=some (p,vs,b):=by exact rfl)(hco:CoL (fst++(vs++caps)) args:=by exact CoL.refl _)(hb:(!b||res.flat)=true:=by exact rfl)(hg:gb=true:=by exact rfl)(hp:p:=by(try dsimp only)<;>((repeat' apply And.intro)<;>first|trivial|rfl|omega|assumption)):Reg P E nt ops (i::L) st K:=asj hi hw hd ho hc hv hf hpure hco hg hp hb hT
def wgx {f : FuncId} {fn : Func} (h : P.funcs[f]? = some fn) (h1 : (fn.name == "runtime.NumGoroutine") = false := by kernel_rfl) (h2 : fn.body.isNone = false := by kernel_rfl) : goodFn P f := ⟨fn, h, h1, h2⟩
def bp2[Decidable p](h:decide p=true):p:=of_decide_eq_true h
def bko[Decidable p](h:decide p=false):¬p:=of_decide_eq_false h
def ty{n:Nat}:((n:Nat):Int).toNat=n:=bt8 n
end
end
def gy{ro:Option Nat}{nt id:Nat}{ops:Array Oper}{st:HSt}{Q:Exit->HSt->Prop}(h:Reg bxn en nt ops (List.range ops.size) st fun _ sf=>Q .normal sf):HW (ro:=ro) bxn nt (.region id ops false) st Q:=ak8 dw h
end Go.Hx
namespace Go.Hx
open Go.Proofs
section
variable {Q:Exit->HSt->Prop}
def sx7{ro:Option Nat}{nt id:Nat}{ops:Array Oper}{st:HSt}{y:Code}(h:Reg bxn en nt ops (List.range ops.size) st fun _ sf=>bhj (ro:=ro) bxn nt y Q .normal sf):HW (ro:=ro) bxn nt (.seq (.region id ops false) y) st Q:=d5 (ak8 dw h)
def hx8{ro:Option Nat}{P:Program}{E:Env}{nt:Nat}{st:HSt}{rs:List ResultVar}{res:List PC}{p q:Prop}{l:List HC}{vs:List PC}(hQ:Q .ret st=((Exit.ret=.normal\/Exit.ret=.ret)/\afm E st rs res))(h1:a0e E st.den rs=some (p,l))(h2:rg st.den.o l=some (q,vs))(hc:CoL vs res)(hp:p:=by(repeat' apply And.intro)<;>first|trivial|exact bt0 rfl|rfl)(hq:q:=by(repeat' apply And.intro)<;>first|trivial|exact bt0 rfl|rfl):HW (ro:=ro) P nt .ret st Q:=ae5 (hQ▸⟨.inr rfl,p,l,q,vs,h1,hp,h2,hq,hc⟩)
end
end Go.Hx
namespace Go.Hx
open Go.Proofs
def tz1{p q:Prop}{d:Decidable p}(h:decide p=true)(e:p=q:=by first|(simp only[ty];done)|(simp only[ty];exact rfl)|exact rfl):q:=e▸of_decide_eq_true h
def tz2{p q:Prop}{d:Decidable p}(h:decide p=false)(e:(¬p)=q:=by first|(simp only[ty];done)|(simp only[ty];exact rfl)|exact rfl):q:=e▸of_decide_eq_false h
section
variable {ro:Option Nat}{P:Program}{nt:Nat}{st:HSt}{Q:Exit->HSt->Prop}{c:Operand}{x y:Code}{p q q':Prop}{d:Decidable p}
def hcd (ht:q->HW (ro:=ro) P nt x st Q) (hf:q'->HW (ro:=ro) P nt y st Q) (hc:ev st.den c=some (.v (.one (.p (.raw (.bool (@decide p d)))))):=by exact rfl) (e:p=q:=by first|(simp only[ty];done)|(simp only[ty];exact rfl)|exact rfl) (e':(¬p)=q':=by first|(simp only[ty];done)|(simp only[ty];exact rfl)|exact rfl):HW (ro:=ro) P nt (.cond c x y) st Q :=
 al _ hc (fun h=>ht (e▸of_decide_eq_true h)) (fun h=>hf (e'▸of_decide_eq_false h))
def hcn (ht:q'->HW (ro:=ro) P nt x st Q) (hf:q->HW (ro:=ro) P nt y st Q) (hc:ev st.den c=some (.v (.one (.p (.raw (.bool (!(@decide p d))))))):=by exact rfl) (e:p=q:=by first|(simp only[ty];done)|(simp only[ty];exact rfl)|exact rfl) (e':(¬p)=q':=by first|(simp only[ty];done)|(simp only[ty];exact rfl)|exact rfl):HW (ro:=ro) P nt (.cond c x y) st Q :=
 al _ hc (fun h=>ht (e'▸of_decide_eq_false (dt h))) (fun h=>hf (e▸of_decide_eq_true (du h)))
def hcb{b:Bool}(ht:b=true->HW (ro:=ro) P nt x st Q)(hf:b=false->HW (ro:=ro) P nt y st Q)(hc:ev st.den c=some (.v (.one (.p (.raw (.bool b))))):=by exact rfl):HW (ro:=ro) P nt (.cond c x y) st Q:=al _ hc ht hf
def hcv {b:Bool} (ht:b=false->HW (ro:=ro) P nt x st Q) (hf:b=true->HW (ro:=ro) P nt y st Q) (hc:ev st.den c=some (.v (.one (.p (.raw (.bool (!b)))))):=by exact rfl):HW (ro:=ro) P nt (.cond c x y) st Q :=
 al _ hc (fun h=>ht (dt h)) (fun h=>hf (du h))
def ka{x:HR}{r l:List (Nat×Option HR)}(d:Nat)(h:sj r l)(e:ay l d=some x:=by exact rfl):sj ((d,some x)::r) l:=⟨⟨x,e,CoR.refl x⟩,h⟩
section
variable {l:List (Nat×Option a7)}
def kb{x:a7}{r:List (Nat×Option a7)}(d:Nat)(h:uf r l)(e:ay l d=some x:=by exact rfl):uf ((d,some x)::r) l:=⟨⟨x,e,CoO.refl x⟩,h⟩
def kn{l:List (Nat×Option HR)}:sj [] l:=trivial
def km:uf [] l:=trivial
variable {ko:List (Nat×Option a7)}{kt:List (Nat×Option HR)}{ι:Type}
def ai{body:Code}(hT:sj kt st.t)(hO:uf ko st.o)(J:ι->HSt)(p:ι->Prop)(μ:ι->Nat)(i0:ι)(h0:p i0)(hs:Sub (J i0) st)(round:∀i,p i->HW (ro:=ro) P nt body ((J i).app ⟨kt,ko⟩) (al2 (fun i=>(J i).app ⟨kt,ko⟩) p μ i Q)):HW (ro:=ro) P nt (.loop body) st Q:=aq2 ⟨kt,ko⟩ ⟨hT,hO⟩ J p μ i0 h0 hs round
def cg{x y:Code}(hT:sj kt st.t)(hO:uf ko st.o)(J:ι->HSt)(p:ι->Prop)(h1:HW (ro:=ro) P nt x st (b7y (fun i=>(J i).app ⟨kt,ko⟩) p Q))(h2:∀i,p i->HW (ro:=ro) P nt y ((J i).app ⟨kt,ko⟩) Q):HW (ro:=ro) P nt (.seq x y) st Q:=aqj ⟨kt,ko⟩ ⟨hT,hO⟩ J p h1 h2
def tt{p:Prop}(h:p:=by repeat (first|exact trivial|refine⟨⟨_,rfl,CoR.refl _⟩, ?_⟩|refine⟨⟨_,rfl,(by first|exact CoR.refl _|exact coi bww|exact cob bxa)⟩, ?_⟩)):p:=h
def uu{p:Prop}(h:p:=by repeat (first|exact trivial|refine⟨⟨_,rfl,CoO.refl _⟩, ?_⟩)):p:=h
def kk{a b:HSt}(h:sj a.t b.t:=by exact tt)(h2:uf a.o b.o:=by exact uu):Sub a b:=⟨h,h2⟩
def br{body:Code}(hT:sj kt st.t)(hO:uf ko st.o)(J:Nat->HSt)(N:Nat)(hs:Sub (J 0) st)(round:∀i,i<=N->HW (ro:=ro) P nt body ((J i).app ⟨kt,ko⟩) (al2 (fun i=>(J i).app ⟨kt,ko⟩) (fun i=>i<=N) (fun i=>N-i) i Q)):HW (ro:=ro) P nt (.loop body) st Q:=aq2 ⟨kt,ko⟩ ⟨hT,hO⟩ J (fun i=>i<=N) (fun i=>N-i) 0 (bsx _) hs round
def bq4 (S:HSt) (Q:Exit->HSt->Prop):Exit->HSt->Prop
 | .normal,st=>Sub S st
 |e,st=>Q e st
def a1f {x y:Code} (hT:sj kt st.t) (hO:uf ko st.o) (J:HSt) (h1:HW (ro:=ro) P nt x st (bq4 (J.app ⟨kt,ko⟩) Q)) (h2:HW (ro:=ro) P nt y (J.app ⟨kt,ko⟩) Q):HW (ro:=ro) P nt (.seq x y) st Q :=
 aqj (ι:=Unit) ⟨kt,ko⟩ ⟨hT,hO⟩ (fun _=>J) (fun _=>True) (auj h1 fun e st' h=>by cases e<;>first|exact⟨(),trivial,h⟩|exact h) fun _ _=>h2
def hcT(h:HW (ro:=ro) P nt x st Q)(hc:ev st.den c=some (.v (.one (.p (.raw (.bool true))))):=by exact rfl):HW (ro:=ro) P nt (.cond c x y) st Q:=al _ hc (fun _=>h) (fun e=>Bool.noConfusion e)
def hcF(h:HW (ro:=ro) P nt y st Q)(hc:ev st.den c=some (.v (.one (.p (.raw (.bool false))))):=by exact rfl):HW (ro:=ro) P nt (.cond c x y) st Q:=al _ hc (fun e=>Bool.noConfusion e) (fun _=>h)
def hrr{X:Prop}(h:X)(hQ:Q .ret st=((Exit.ret=.normal\/Exit.ret=.ret)/\X):=by exact rfl):HW (ro:=ro) P nt .ret st Q:=ae5 (hQ▸⟨.inr rfl,h⟩)
def hxr {E:Env} {rs:List ResultVar} {res:List PC} {p q:Prop} {l:List HC} {vs:List PC} (hc:CoL vs res) (hQ:Q .ret st=((Exit.ret=.normal\/Exit.ret=.ret)/\afm E st rs res):=by exact rfl) (h1:a0e E st.den rs=some (p,l):=by exact rfl) (h2:rg st.den.o l=some (q,vs):=by exact rfl)
 (hp:p:=by(repeat' apply And.intro)<;>first|trivial|exact bt0 rfl|rfl) (hq:q:=by(repeat' apply And.intro)<;>first|trivial|exact bt0 rfl|rfl):HW (ro:=ro) P nt .ret st Q:=ae5 (hQ▸⟨.inr rfl,p,l,q,vs,h1,hp,h2,hq,hc⟩)
def kd{a b:Prop}(h:b)(k:a:=by kernel_rfl):a/\b:=⟨k,h⟩
def lpz{I:ι->HSt}{pp:ι->Prop}{μ:ι->Nat}{k:Nat}(i':ι)(hs:Sub (I i') st)(hp:pp i')(hm:μ i'<k:=by first|omega|(dsimp only;omega)):∃i',pp i'/\μ i'<k/\Sub (I i') st:=⟨i',hp,hm,hs⟩
def lpx{I:ι->HSt}{pp:ι->Prop}{μ:ι->Nat}{k:Nat}(i':ι)(hs:Sub (I i') st)(hp:pp i':=by first|trivial|(show _+1<=_;omega))(hm:μ i'<k:=by first|omega|(dsimp only;omega)):∃i',pp i'/\μ i'<k/\Sub (I i') st:=⟨i',hp,hm,hs⟩
end
end
def hpx{nt:Nat}{f:FuncId}{fn:Func}{body:Code}{args res:List PC}(hf:bxn.funcs[f]? = some fn)(h:HW (ro:=none) bxn nt body ⟨a4o 0 args,[]⟩ fun e st=>(e=.normal\/e=.ret)/\afm en st fn.results.toList res)(hb:fn.body=some body:=by exact rfl)(hn:fn.ntmps=nt:=by exact rfl)(hl:args.length<=nt:=by exact bt0 rfl):a6 bxn f args (ae res):=b3o dw hf hb hn hl h
def hfx{nt:Nat}{f:FuncId}{fn:Func}{body:Code}{args:List HC}{o1 o2:List (Nat×a7)}{res:HR}{fx:List Nat}(hf:bxn.funcs[f]? = some fn)(h:HW (ro:=none) bxn nt body ⟨a13 0 args,aa1 o1⟩ fun e st=>(e=.normal\/e=.ret)/\bj5 en st fn.results.toList res o2)(hb:fn.body=some body:=by exact rfl)(hn:fn.ntmps=nt:=by exact rfl)(hl:args.length<=nt:=by exact bt0 rfl)(hx:fx.all (Nat.ble 1000)=true:=by exact rfl):d9 bxn f args o1 res o2 fx:=bcz dw hf hb hn hl hx h
def gd{ro:Option Nat}{nt id:Nat}{ops:Array Oper}{st:HSt}{Q:Exit->HSt->Prop}(h:Reg bxn en nt ops (List.range ops.size) st fun T sf=>adm ops T=true/\Q .normal sf):HW (ro:=ro) bxn nt (.region id ops true) st Q:=bc0 dw a8i _ h
section
variable {P:Program}{E:Env}{nt:Nat}{ops:Array Oper}{i:Nat}{o:Oper}{st:HSt}{L:List Nat}{K:List Tr->HSt->Prop}
def r9 (id:Nat) (wb:Bool) {u:App} {gb:Bool} (hT:Reg P E nt ops L (st.after o.dst (some u.val) [(u.id,some u.ob)]) fun T sf=>K (⟨i,⟨id,wb,true, .tup [],[u.id],if u.new then[id] else[],u.val.ids++u.ob.ids⟩,looks st.den o,cq st.den o.dst [(u.id,some u.ob)],none⟩::T) sf)
 (hi:ops[i]? = some o:=by exact rfl) (hw:be ops st.den o=some gb:=by exact rfl) (hd:d6 nt o.dst=true:=by exact rfl) (hq':hap E st.den.o (ev st.den) id wb o.op=some u:=by exact rfl) (hn:(!u.new||jp id st)=true:=by exact rfl) (hg:gb=true:=by exact rfl)
 (hp:u.pre:=by(try dsimp only)<;>((repeat' apply And.intro)<;>first|trivial|rfl|assumption|omega|(simp only[bt8];omega)|(simp only[dv,b7];omega)|exact Or.inl rfl|exact Or.inr rfl|exact(fun _=>Or.inl rfl)|exact(fun _=>Or.inr (bt0 rfl))|exact bt0 rfl|(intro h;cases h;done))):Reg P E nt ops (i::L) st K:=zp id wb hi hw hd hq' hn hg hp hT
def fc9 {cl:Call} {f:FuncId} {caps hcs:List HC} {args:List HC} {o1 o2:List (Nat×a7)} {res:HR} {fx:List Nat} {gb:Bool} (hf:goodFn P f) (hfun:d9 P f args o1 res o2 fx) (hsub:aqh o1 st.den.o)
 (hT:Reg P E nt ops L (st.after o.dst (some res) (a08 o1 o2)) fun T sf=>K (⟨i,⟨0,false,true, .tup [],keys o1++keys o2,ano o1 o2 fx,res.ids++adj o2⟩,looks st.den o,cq st.den o.dst (a08 o1 o2),none⟩::T) sf)
 (hi:ops[i]? = some o:=by exact rfl) (hw:be ops st.den o=some gb:=by exact rfl) (hd:d6 nt o.dst=true:=by exact rfl) (ho:o.op=.call cl:=by exact rfl) (hc:wn (ev st.den) cl=some (f,caps):=by exact rfl) (hv:tc (ev st.den) cl.args.toList=some hcs:=by exact rfl) (hco:v6 (hcs++caps) args:=by exact v6.refl _) (hB:fcB o1 o2 res fx st=true:=by exact rfl) (hg:gb=true:=by exact rfl):Reg P E nt ops (i::L) st K:=j7 hi hw hd ho hc hv hf hfun hco hsub hB hg hT
end
end Go.Hx
end
section
namespace Go.Hx
structure Hq (Q:Prop):Prop where
 v:Q
section
variable {P Q:Prop}
def w_1(hQ:Q)(h:Hq Q->P:=by intro h;(first|refine qy ?_|refine cj ?_|refine d5 ?_|refine gy ?_|refine s9 ?_|refine gd ?_|refine kd ?_|refine hcT ?_|refine hcF ?_|refine dn ?_|refine ae5 ?_|refine a4s ?_|refine ck ?_);exact h.v):P:=h ⟨hQ⟩
def w_2(hQ:Q)(h:Hq Q->P:=by intro h;(iterate 2 refine w_1 ?_);exact h.v):P:=h ⟨hQ⟩
def w_3(hQ:Q)(h:Hq Q->P:=by intro h;(iterate 3 refine w_1 ?_);exact h.v):P:=h ⟨hQ⟩
def w_4(hQ:Q)(h:Hq Q->P:=by intro h;(iterate 4 refine w_1 ?_);exact h.v):P:=h ⟨hQ⟩
def w_5(hQ:Q)(h:Hq Q->P:=by intro h;(iterate 5 refine w_1 ?_);exact h.v):P:=h ⟨hQ⟩
def w_6(hQ:Q)(h:Hq Q->P:=by intro h;(iterate 6 refine w_1 ?_);exact h.v):P:=h ⟨hQ⟩
def w_7(hQ:Q)(h:Hq Q->P:=by intro h;(iterate 7 refine w_1 ?_);exact h.v):P:=h ⟨hQ⟩
def w_8(hQ:Q)(h:Hq Q->P:=by intro h;(iterate 8 refine w_1 ?_);exact h.v):P:=h ⟨hQ⟩
def w_9(hQ:Q)(h:Hq Q->P:=by intro h;(iterate 9 refine w_1 ?_);exact h.v):P:=h ⟨hQ⟩
def da(hQ:Q)(h:Hq Q->P:=by intro h;(iterate 10 refine w_1 ?_);exact h.v):P:=h ⟨hQ⟩
def ig(hQ:Q)(h:Hq Q->P:=by intro h;(iterate 11 refine w_1 ?_);exact h.v):P:=h ⟨hQ⟩
def fh(hQ:Q)(h:Hq Q->P:=by intro h;(iterate 12 refine w_1 ?_);exact h.v):P:=h ⟨hQ⟩
def jo(hQ:Q)(h:Hq Q->P:=by intro h;(iterate 13 refine w_1 ?_);exact h.v):P:=h ⟨hQ⟩
def mz(hQ:Q)(h:Hq Q->P:=by intro h;(iterate 14 refine w_1 ?_);exact h.v):P:=h ⟨hQ⟩
def j5(hQ:Q)(h:Hq Q->P:=by intro h;(iterate 15 refine w_1 ?_);exact h.v):P:=h ⟨hQ⟩
def ov(hQ:Q)(h:Hq Q->P:=by intro h;(iterate 16 refine w_1 ?_);exact h.v):P:=h ⟨hQ⟩
def sv(hQ:Q)(h:Hq Q->P:=by intro h;(iterate 17 refine w_1 ?_);exact h.v):P:=h ⟨hQ⟩
def a4l(hQ:Q)(h:Hq Q->P:=by intro h;(iterate 18 refine w_1 ?_);exact h.v):P:=h ⟨hQ⟩
def air(hQ:Q)(h:Hq Q->P:=by intro h;(iterate 19 refine w_1 ?_);exact h.v):P:=h ⟨hQ⟩
def ahd(hQ:Q)(h:Hq Q->P:=by intro h;(iterate 20 refine w_1 ?_);exact h.v):P:=h ⟨hQ⟩
def a5y(hQ:Q)(h:Hq Q->P:=by intro h;(iterate 21 refine w_1 ?_);exact h.v):P:=h ⟨hQ⟩
def ago(hQ:Q)(h:Hq Q->P:=by intro h;(iterate 22 refine w_1 ?_);exact h.v):P:=h ⟨hQ⟩
def b82(hQ:Q)(h:Hq Q->P:=by intro h;(iterate 23 refine w_1 ?_);exact h.v):P:=h ⟨hQ⟩
def bpq(hQ:Q)(h:Hq Q->P:=by intro h;(iterate 25 refine w_1 ?_);exact h.v):P:=h ⟨hQ⟩
def b7q(hQ:Q)(h:Hq Q->P:=by intro h;(iterate 26 refine w_1 ?_);exact h.v):P:=h ⟨hQ⟩
def bpo(hQ:Q)(h:Hq Q->P:=by intro h;(iterate 28 refine w_1 ?_);exact h.v):P:=h ⟨hQ⟩
def bq6(hQ:Q)(h:Hq Q->P:=by intro h;(iterate 29 refine w_1 ?_);exact h.v):P:=h ⟨hQ⟩
def boy(hQ:Q)(h:Hq Q->P:=by intro h;(iterate 30 refine w_1 ?_);exact h.v):P:=h ⟨hQ⟩
def bkq(hQ:Q)(h:Hq Q->P:=by intro h;(iterate 32 refine w_1 ?_);exact h.v):P:=h ⟨hQ⟩
end
end Go.Hx
end
section
namespace Go.Hx
theorem v_2{P Q:Prop}(hQ:Q)(h:Hq Q->P:=by intro h;(iterate 2 refine w_1 ?_);refine hxr ?_;exact h.v):P:=h ⟨hQ⟩
theorem v_3{P Q:Prop}(hQ:Q)(h:Hq Q->P:=by intro h;(iterate 3 refine w_1 ?_);refine hxr ?_;exact h.v):P:=h ⟨hQ⟩
theorem v_4{P Q:Prop}(hQ:Q)(h:Hq Q->P:=by intro h;(iterate 4 refine w_1 ?_);refine hxr ?_;exact h.v):P:=h ⟨hQ⟩
theorem v_5{P Q:Prop}(hQ:Q)(h:Hq Q->P:=by intro h;(iterate 5 refine w_1 ?_);refine hxr ?_;exact h.v):P:=h ⟨hQ⟩
theorem v_6{P Q:Prop}(hQ:Q)(h:Hq Q->P:=by intro h;(iterate 6 refine w_1 ?_);refine hxr ?_;exact h.v):P:=h ⟨hQ⟩
theorem v_7{P Q:Prop}(hQ:Q)(h:Hq Q->P:=by intro h;(iterate 7 refine w_1 ?_);refine hxr ?_;exact h.v):P:=h ⟨hQ⟩
theorem v_8{P Q:Prop}(hQ:Q)(h:Hq Q->P:=by intro h;(iterate 8 refine w_1 ?_);refine hxr ?_;exact h.v):P:=h ⟨hQ⟩
theorem v_9{P Q:Prop}(hQ:Q)(h:Hq Q->P:=by intro h;(iterate 9 refine w_1 ?_);refine hxr ?_;exact h.v):P:=h ⟨hQ⟩
end Go.Hx
end
namespace Go.Hx
section
open Go.Proofs Go.Lib Go.RowKit
def bki (w:World) (o:Obj) {r:Nat} (h:r<w.heap.size):(w.alloc o).heap[r]? = w.heap[r]?:=by
 show(w.heap.push o)[r]? = _;rw[Array.getElem?_push_lt h,bue h]
def bsg(k:Nat)(xs vs:List Value):List Value:=xs.take k++vs++xs.drop k
structure bqg (w w':World) (T s:Nat) (own v:Value) (n:Nat) (xs:List Value):Prop where
 row:w'.ownsRow 0 T s v (n+1) xs
 bl:Below 0 w w'
 out:∀g,g<w.heap.size->cu own≠some g->w'.heap[g]? = w.heap[g]?
 at_:∀g,cu v=some g->w.heap.size<=g\/cu own=some g
def bry(i:Nat)(F G:Nat->Nat->PV):Nat->Nat->PV:=fun k j=>if k<i then F k j else if k=i then G 0 j else F (k-1) j
def fy{id q:Nat}{x ob:a7}(h:lk [(q,x)] id=some ob):id=q/\ob=x:=by
 simp only[lk]at h;by_cases hk:q=id
 · subst hk
   simp at h;exact⟨rfl,h.symm⟩
 have:Nat.beq q id=false:=by
  rw[btb];exact fun hb=>hk (btw hb)
 rw[this]at h;cases h
structure bsm (c:Ctx) (w w':World) (T s a:Nat) (v:Value) (n:Nat) (ys:List Value):Prop where
 row:w'.ownsRow 0 T s v (n+1) ys
 bl:Below 0 w w'
 out:∀g,g<w.heap.size->¬c.blk a g->w'.heap[g]? = w.heap[g]?
 at_:∀g,cu v=some g->w.heap.size<=g\/c.blk a g
def b3y{P:Program}{f:FuncId}{T s a:Nat}{y:Value}{F:Nat->Nat->PV}(hs:0<s)
 (h:∀(w:World) (ad:Option Addr),Calls P f #[.slice ad 0 0,y] w fun e w'=>∃v,e=.returned v/\Below w.heap.size w w'/\(v=.slice ad 0 0\/w'.ownsRow 0 T s v 0 []/\∀g,cu v=some g->w.heap.size<=g)) :
 d9 P f [.one (.p (lp (.slice none 0 0))), .one (.p (.raw y))] [] (.v (.one (.ref a 0))) [(a, .arr true s T 0 F)] []:=by
 intro w c us hM hrep
 obtain ⟨ad,rfl⟩:∃ad,us=[.slice ad 0 0,y]:=by
  match us,hrep with
  | [u0,u1],⟨h0,h1,_⟩ =>
   obtain⟨ad,cap,hv,_,_,hc,_⟩:=h0;obtain rfl:cap=0:=hc rfl;exact⟨ad,by rw[hv,show u1=y from h1.1]⟩
 refine(h w ad).mono ?_;rintro e w' ⟨v,rfl,hb,hor⟩;have la:lk [(a,a7.arr true s T 0 F)] a=some (.arr true s T 0 F):=by simp[lk]
 have him:∀q ob,c.imm q=some ob->q<w.heap.size:=fun q ob hq=>(bt3.1 (hM.imm q ob hq)).1
 have hform:v.oneCell'=true:=by
  rcases hor with rfl|⟨hrow,_⟩
  · rfl
  rcases hrow.2 with⟨hv,_⟩|⟨g,cap,cur,hv,_⟩<;>(subst hv;rfl)
 have hbk:∃bk:Nat->Prop,(∀g,bk g->w.heap.size<=g)/\(bk=ew v/\w'.ownsRow 0 T s v 0 []\/bk=noB/\aq c.imm (.sl 0 s true F) v):=by
  rcases hor with rfl|⟨hrow,hat⟩
  · exact⟨noB,fun g hg=>hg.elim, .inr ⟨rfl,ad,0,rfl,bsw _,bsx _,fun _=>rfl,fun h=>absurd h (bvd 0)⟩⟩
  exact⟨ew v,hat, .inl ⟨rfl,hrow⟩⟩
 obtain⟨bk,hat,hok⟩:=hbk;refine⟨v,{ c with own:=fun q=>if q=a then v else c.own q,blk:=fun q=>if q=a then bk else c.blk q },rfl,⟨hform,fun l hl=>(by cases(fy hl).2),fun ob s1 e1 n1 ho1 hd=>?_⟩,⟨fun id ob hl=>?_,fun id id' ob ob' q hl hl' _ _=>by rw[(fy hl).1,(fy hl').1],fun q ob hq=>(hb.block q (him q ob hq)).trans (hM.imm q ob hq),fun id ob q hl hq=>?_⟩,⟨hb.os,hb.tape,hb.output,hb.size,fun k hk=>absurd hk (bt1 k),hb.drawn⟩,fun q hq _=>⟨hb.block q hq,rfl⟩,fun id ob q hl hq=>?_,fun id hid=>absurd hid bx0⟩
 · obtain ⟨_,rfl⟩:=fy ho1
   simp only[a7.dim,bst,bt2]at hd;obtain⟨rfl,rfl,rfl⟩:=hd;exact⟨bsw _,fun _=>by simp⟩
 · obtain ⟨rfl,rfl⟩:=fy hl
   rcases hok with⟨h1,h2⟩|⟨h1,h2⟩
   · exact⟨hs,bsx _, .inl ⟨by simpa using h1,[],by simpa using h2,fun i j hi=>by omega⟩⟩
   exact⟨hs,bsx _, .inr ⟨.inr rfl,by simpa using h1,by simpa using h2⟩⟩
 · obtain ⟨rfl,_⟩:=fy hl
   have hq':bk q:=by simpa using hq
   show c.imm q=none
   cases hc:c.imm q with
   |none=>rfl
   |some ob=>have:=him q ob hc;have:=hat q hq';omega
 obtain⟨rfl,_⟩:=fy hl;have hq':bk q:=by simpa using hq
 exact .inl (hat q hq')
def HE(nt:Nat)(st:HSt)(Q:HSt->Prop):Prop:=∀w0 m0 a w,Rel w0 m0 nt st.den a w->∃st':HSt,Q st'/\Rel w0 m0 nt st'.den a w
def l6{nt:Nat}{st:HSt}{Q:HSt->Prop}(h:Q st):HE nt st Q:=fun _ _ _ _ hr=>⟨st,h,hr⟩
def b12 {ro:Option Nat} {P:Program} {nt:Nat} {c:Code} {st:HSt} {Q:Exit->HSt->Prop} (h:HW (ro:=ro) P nt c st fun e s1=>HE nt s1 (Q e)):HW (ro:=ro) P nt c st Q:=fun w0 m0 a w hr=>by
 refine wpIn_mono (h w0 m0 a w hr) ?_;rintro e a' w' ⟨s1,h1,h2⟩;exact h1 w0 m0 a' w' h2
end
section
open Go.RowKit
abbrev AS:=BitVec 32
abbrev asI(s:AS):Int:=(s.toNat:Int)
def asC(s:AS):PV:=.raw (.int .u32 (asI s))
def ar5{n:Int}(h0:0<=n)(h1:n<4294967296):IntKind.wrap .u32 n=n:=tz (by simp only[inR,w9,a0r];omega)
def a7y (s:AS):asI s<4294967296:=by
 have:=s.isLt;unfold asI;omega
def t6(s:AS):0<=asI s:=bv4 _
def uq (s:AS):BitVec.ofInt 32 (asI s)=s:=by
 unfold asI;rw[BitVec.ofInt_natCast,BitVec.ofNat_toNat,BitVec.setWidth_eq]
def df {a b:AS}:asI a=asI b<->a=b:=by
 unfold asI;rw[Int.ofNat_inj];exact BitVec.toNat_inj
def acn(s:AS):IntKind.wrap .u32 (s.toNat:Int)=asI s:=ar5 (t6 s) (a7y s)
def kg (a b:AS):ct .and .u32 (asI a) (asI b)=asI (a&&&b):=by
 show IntKind.wrap .u32 ((BitVec.ofInt 32 (asI a)&&&BitVec.ofInt 32 (asI b)).toNat:Int)=_;rw[uq,uq,acn]
def bOr (a b:AS):ct .or .u32 (asI a) (asI b)=asI (a|||b):=by
 show IntKind.wrap .u32 ((BitVec.ofInt 32 (asI a)|||BitVec.ofInt 32 (asI b)).toNat:Int)=_;rw[uq,uq,acn]
def pn (a b:AS):ct .andNot .u32 (asI a) (asI b)=asI (a&&&~~~b):=by
 show IntKind.wrap .u32 ((BitVec.ofInt 32 (asI a)&&&~~~BitVec.ofInt 32 (asI b)).toNat:Int)=_;rw[uq,uq,acn]
def a0f (a:AS) (n:Nat):(asI a).fdiv (2^(min n 32))=asI (a>>>n):=by
 have e:(2:Int)^(min n 32)=((2^(min n 32):Nat):Int):=by rw[Int.natCast_pow];rfl
 rw[e];unfold asI;rw[bw9 _ (bv4 _),<- Int.natCast_ediv,bvq,bvm];by_cases h:n<=32
 · rw[btz h]
 rw[Nat.min_eq_right bww];have h1:=a.isLt;have h2:2^32<=2^n:=buu bww bww;rw[Nat.div_eq_of_lt bww,Nat.div_eq_of_lt (bvy bww h2)]
def a00 (a:AS) (n:Nat):IntKind.wrap .u32 (asI a*2^(min n 32))=asI (a<<<n):=by
 have e:asI a*(2:Int)^(min n 32)=((a.toNat*2^(min n 32):Nat):Int):=by rw[Int.natCast_mul,Int.natCast_pow];rfl
 rw[e]
 have hw:∀m:Nat,IntKind.wrap .u32 (m:Int)=((m%4294967296:Nat):Int):=by
  intro m;simp[IntKind.wrap,IntKind.signed,IntKind.bits]
 rw[hw];unfold asI;rw[BitVec.toNat_shiftLeft,Nat.shiftLeft_eq];by_cases h:n<=32
 · rw[btz h]
 rw[Nat.min_eq_right bww];have h1:a.toNat*2^32%2^32=0:=Nat.mul_mod_left _ _
 have h2:a.toNat*2^n%2^32=0:=by
  obtain⟨k,rfl⟩:∃k,n=k+32:=⟨n-32,by omega⟩;rw[Nat.pow_add,<- Nat.mul_assoc];exact Nat.mul_mod_left _ _
 have h1:a.toNat*2^32%4294967296=0:=h1;rw[h1,h2]
end
section
structure Fd where
 lhs:AS
 rhs:AS
instance:Inhabited Fd:=⟨⟨0,0⟩⟩
theorem Fd.eq_iff{a b:Fd}:a=b<->a.lhs=b.lhs/\a.rhs=b.rhs:=by cases a;cases b;simp
instance:DecidableEq Fd:=fun a b=>decidable_of_iff _ (Fd.eq_iff (a:=a) (b:=b)).symm
def Fd.c (x:Fd):Nat->PV
 |0=>asC x.lhs
 |1=>asC x.rhs
 |_=>.any
def sub(a b:AS):Prop:=a&&&~~~b=0
instance:DecidablePred fun p:AS×AS=>sub p.1 p.2:=fun p=>inferInstanceAs (Decidable (_=_))
instance {a b:AS}:Decidable (sub a b):=inferInstanceAs (Decidable (_=_))
section
variable {a b:AS}
def cz:sub a b<->∀i,i<32->a.getLsbD i=true->b.getLsbD i=true:=by
 unfold sub;constructor
 · intro h i hi ha
   have:=congrArg (fun x:AS=>x.getLsbD i) h;simp only[btm,bw5,hi,ha,decide_true,bv2]at this;simpa using this
 intro h;apply bui;intro i hi;have:=h i hi;simp only[btm,bw5,hi,decide_true,bv2];cases ha:a.getLsbD i<;>cases hb:b.getLsbD i<;>simp_all
def jh(a:AS):sub a a:=cz.2 fun _ _ h=>h
def ku{c:AS}(h:sub a b)(k:sub b c):sub a c:=cz.2 fun i hi ha=>cz.1 k i hi (cz.1 h i hi ha)
def a5b:sub a (a|||b):=cz.2 fun i hi ha=>by simp[ha]
def acu:sub b (a|||b):=cz.2 fun i hi ha=>by simp[ha]
def a4a {c:AS} (h:sub a c) (k:sub b c):sub (a|||b) c:=cz.2 fun i hi ha=>by
 rw[bv7,bud]at ha
 rcases ha with ha|ha
 · exact cz.1 h i hi ha
 exact cz.1 k i hi ha
def lj (h:sub a b) (k:sub b a):a=b:=by
 apply bui;intro i hi;have h1:=cz.1 h i hi;have h2:=cz.1 k i hi;cases ha:a.getLsbD i<;>cases hb:b.getLsbD i<;>simp_all
def b2a (h:sub a b):a.toNat<=b.toNat:=by
 have e:a|||b=b:=lj (a4a h (jh b)) acu
 have:a.toNat<=(a|||b).toNat:=by rw[BitVec.toNat_or];exact Nat.left_le_or
 rwa [e]at this
def xw (h:sub a b) (hne:a≠b):a.toNat<b.toNat:=by
 rcases bvr (b2a h)with h|h
 · exact h
 exact absurd (bug h) hne
def bb4:sub a b<->a&&&b=a:=by
 rw[cz];constructor
 · intro h
   apply bui;intro i hi;have:=h i hi;rw[btm];cases ha:a.getLsbD i<;>simp_all
 intro h i hi ha;have:=congrArg (fun x:AS=>x.getLsbD i) h;simp only[btm,ha,bv2]at this;exact this
def io(s:AS)(f:Fd):AS:=if sub f.lhs s then s|||f.rhs else s
def fe(l:List Fd)(s:AS):AS:=l.foldl io s
variable {s:AS}
def afd {f:Fd}:sub s (io s f):=by
 unfold io;split
 · exact a5b
 exact jh s
def qq:∀{l:List Fd} {s:AS},sub s (fe l s)
 | [],s=>jh s
 |f::l,s=>ku afd (qq (l:=l) (s:=io s f))
def clF (l:List Fd):Nat->AS->AS
 |0,s=>s
 |n+1,s=>if fe l s=s then s else clF l n (fe l s)
def clo(l:List Fd)(s:AS):AS:=clF l 4294967296 s
variable {l:List Fd}
def aqr:∀{n m:Nat} {s:AS},4294967296-s.toNat<=n->4294967296-s.toNat<=m->clF l n s=clF l m s
 |0,m,s,hn,hm=>by have:=s.isLt;omega
 |n+1,0,s,hn,hm=>by have:=s.isLt;omega
 | n+1,m+1,s,hn,hm=>by
  unfold clF;split
  · rfl
  rename_i hne;have:=xw (qq (l:=l) (s:=s)) (fun e=>hne e.symm);exact aqr bww bww
def bew (h:fe l s=s):clo l s=s:=by
 show clF l (4294967295+1) s=s;unfold clF;rw[if_pos h]
def b64:clo l (fe l s)=clo l s:=by
 by_cases h:fe l s=s
 · rw[h]
 have e:clo l s=clF l 4294967295 (fe l s):=by
  show clF l (4294967295+1) s=_;rw[clF,if_neg h]
 rw[e];have:=xw (qq (l:=l) (s:=s)) (fun e=>h e.symm);exact aqr bww bww
def ag4:∀{n:Nat} {s:AS},4294967296-s.toNat<=n->fe l (clF l n s)=clF l n s
 |0,s,hn=>by have:=s.isLt;omega
 | n+1,s,hn=>by
  unfold clF;split
  · assumption
  rename_i hne;have:=xw (qq (l:=l) (s:=s)) (fun e=>hne e.symm);exact ag4 bww
def axm:fe l (clo l s)=clo l s:=ag4 bww
def b1b:∀{n:Nat} {s:AS},sub s (clF l n s)
 |0,s=>jh s
 | n+1,s=>by
  unfold clF;split
  · exact jh s
  exact ku qq b1b
def aos:sub s (clo l s):=b1b
def uh(l:List Fd)(s:AS):Prop:=∀f∈l,sub f.lhs s->sub f.rhs s
def yb:∀{l:List Fd} {s:AS},fe l s=s<->uh l s
 | [],s=>⟨fun _ f hf=>(by cases hf),fun _=>rfl⟩
 | f :: l,s=>by
  constructor
  · intro h
    have h1:io s f=s:=lj (by have:=qq (l:=l) (s:=io s f);rw[show fe l (io s f)=s from h]at this;exact this) afd
    have h2:fe l s=s:=by
     have:fe l (io s f)=s:=h;rwa [h1]at this
    intro g hg
    rcases bt7.1 hg with rfl|hg
    · intro hl
      rw[io,if_pos hl]at h1;rw[<- h1];exact acu
    exact yb.1 h2 g hg
  intro h
  have h1:io s f=s:=by
   unfold io;split
   · rename_i hl
     exact lj (a4a (jh s) (h f (bu5 ..) hl)) a5b
   rfl
  show fe l (io s f)=s;rw[h1];exact yb.2 fun g hg=>h g (btp _ hg)
def aev:∀{l:List Fd} {s t:AS},uh l t->sub s t->sub (fe l s) t
 | [],s,t,_,h=>h
 | f :: l,s,t,ht,h=>aev (l:=l) (fun g hg=>ht g (btp _ hg)) (by
  unfold io;split
  · rename_i hl
    exact a4a h (ht f (bu5 ..) (ku hl h))
  exact h)
def aub {t:AS} (ht:uh l t):∀{n:Nat} {s:AS},sub s t->sub (clF l n s) t
 |0,s,h=>h
 | n+1,s,h=>by
  unfold clF;split
  · exact h
  exact aub ht (aev ht h)
def a8c{t:AS}(ht:uh l t)(h:sub s t):sub (clo l s) t:=aub ht h
def a7w:uh l (clo l s):=yb.1 axm
end
end
section
abbrev pI(a:Int):PC:=.one (.raw (.int .i64 a))
abbrev pB(b:Bool):PC:=.one (.raw (.bool b))
abbrev pP(x:PV):PC:=.one x
abbrev pA(s:AS):PC:=.one (.raw (.int .u32 (asI s)))
abbrev fdl(l:List Fd):PV:=psl 2 Fd.c l
abbrev asl(l:List AS):PV:=psl 1 (fun s _=>asC s) l
abbrev vI(a:Int):HR:=bp (.raw (.int .i64 a))
abbrev vA(s:AS):HR:=bp (.raw (.int .u32 (asI s)))
def b1k {l:List Fd} {s:AS} {i:Nat} (hi:i<l.length):fe (l.take (i+1)) s=io (fe (l.take i) s) (l.getD i default):=by
 unfold fe;rw[List.take_succ,bsu hi,btq,bsv,bsu hi];rfl
def j1 {a b:AS}:ct .andNot .u32 (asI a) (asI b)=0<->sub a b:=by
 rw[pn,show(0:Int)=asI 0 from rfl,df];exact Iff.rfl
def blb {S:AS} {f:Fd} (h:ct .andNot .u32 (asI f.lhs) (asI S)=0):ct .or .u32 (asI S) (asI f.rhs)=asI (io S f):=by
 rw[bOr,io,if_pos (j1.1 h)]
def bju{S:AS}{f:Fd}(h:¬ct .andNot .u32 (asI f.lhs) (asI S)=0):io S f=S:=if_neg fun e=>h (j1.2 e)
def inU(n:Int)(f:Fd):Bool:=decide ((f.lhs|||f.rhs)>>>n.toNat=0)
def cb(n:Int)(l:List Fd):Int:=if n<0\/16<n then 7 else if 64<l.length then 3 else if l.all (inU n)=true then 0 else 1
def a9x {n:Int} {f:Fd}:(ct .or .u32 (asI f.lhs) (asI f.rhs)).fdiv (2^(min n.toNat 32))=0<->inU n f=true:=by
 rw[bOr,a0f,show(0:Int)=asI 0 from rfl,df];unfold inU;rw[decide_eq_true_iff]
def ip {k:IntKind} {a b:Int} (h:a=b):CoR (bp (.raw (.int k a))) (bp (.raw (.int k b))):=by
 rw[h];exact CoR.refl _
def kc(n:Nat):AS:=(List.range n).foldl (fun s i=>s|||((1:AS)<<<i)) 0
def aa(n:Int):AS:=kc (min n.toNat 32)
def aeb (i:Nat):kc (i+1)=kc i|||((1:AS)<<<i):=by
 unfold kc;rw[bu7,btq];rfl
def b29 (i:Nat):ct .or .u32 (asI (kc i)) (IntKind.wrap .u32 (1*2^(min i 32)))=asI (kc (i+1)):=by
 have e:IntKind.wrap .u32 (1*2^(min i 32))=asI ((1:AS)<<<i):=a00 1 i;rw[e,bOr,aeb]
end
section
abbrev pU8(a:Int):PC:=.one (.raw (.int .u8 a))
abbrev pS(s:ByteArray):PC:=.one (.raw (.string s))
abbrev vU8(a:Int):HR:=bp (.raw (.int .u8 a))
abbrev vB(b:Bool):HR:=bp (.raw (.bool b))
abbrev vS(s:ByteArray):HR:=bp (.raw (.string s))
abbrev vP(x:PV):HR:=bp x
abbrev Lim:Nat:=68719476736
structure Val where
 kind:Int
 num:Int
 str:ByteArray
instance:Inhabited Val:=⟨⟨0,0,⟨#[]⟩⟩⟩
theorem Val.eq_iff{a b:Val}:a=b<->a.kind=b.kind/\a.num=b.num/\a.str=b.str:=by cases a;cases b;simp
instance:DecidableEq Val:=fun a b=>decidable_of_iff _ (Val.eq_iff (a:=a) (b:=b)).symm
def Val.c (v:Val):Nat->PV
 |0=>.raw (.int .i64 v.kind)
 |1=>.raw (.int .i64 v.num)
 |2=>.raw (.string v.str)
 |_=>.any
abbrev vals(l:List Val):PV:=psl 3 Val.c l
abbrev Val.pc(v:Val):PC:=.agg [v.c 0,v.c 1,v.c 2]
structure Row where
 id:Int
 vals:List Val
instance:Inhabited Row:=⟨⟨0,[]⟩⟩
theorem Row.eq_iff{a b:Row}:a=b<->a.id=b.id/\a.vals=b.vals:=by cases a;cases b;simp
instance:DecidableEq Row:=fun a b=>decidable_of_iff _ (Row.eq_iff (a:=a) (b:=b)).symm
def Row.c (r:Row):Nat->PV
 |0=>.raw (.int .i64 r.id)
 |1=>Hx.vals r.vals
 |_=>.any
abbrev rows(l:List Row):PV:=psl 2 Row.c l
abbrev Row.pc(r:Row):PC:=.agg [r.c 0,r.c 1]
def ac4 (s:ByteArray):Nat->PV
 |0=>.raw (.string s)
 |_=>.any
instance:Inhabited ByteArray:=⟨⟨#[]⟩⟩
abbrev ya(l:List ByteArray):PV:=psl 1 ac4 l
def bhy (s:UInt8):Nat->PV
 |0=>.raw (.int .u8 (s.toNat:Int))
 |_=>.any
abbrev u8s(l:List UInt8):PV:=psl 1 bhy l
def b4v (l:List UInt8):Nat->PV
 |0=>u8s l
 |_=>.any
abbrev bow(l:List (List UInt8)):PV:=psl 1 b4v l
structure Tbl where
 name:ByteArray
 attrs:List ByteArray
 rows:List Row
instance:Inhabited Tbl:=⟨⟨⟨#[]⟩,[],[]⟩⟩
theorem Tbl.eq_iff{a b:Tbl}:a=b<->a.name=b.name/\a.attrs=b.attrs/\a.rows=b.rows:=by cases a;cases b;simp
instance:DecidableEq Tbl:=fun a b=>decidable_of_iff _ (Tbl.eq_iff (a:=a) (b:=b)).symm
def Tbl.c (t:Tbl):Nat->PV
 |0=>.raw (.string t.name)
 |1=>ya t.attrs
 |2=>Hx.rows t.rows
 |_=>.any
abbrev bpi(l:List Tbl):PV:=psl 3 Tbl.c l
abbrev Tbl.pc(t:Tbl):PC:=.agg [t.c 0,t.c 1,t.c 2]
abbrev DB:=List Tbl
abbrev bsp(d:DB):PC:=.agg [bpi d]
structure Chg where
 kind:Int
 name:ByteArray
 table:Tbl
 row:Row
 attr:Int
 value:Val
instance:Inhabited Chg:=⟨⟨0,⟨#[]⟩,default,default,0,default⟩⟩
theorem Chg.eq_iff{a b:Chg}:a=b<->a.kind=b.kind/\a.name=b.name/\a.table=b.table/\a.row=b.row/\a.attr=b.attr/\a.value=b.value:=by cases a;cases b;simp
instance:DecidableEq Chg:=fun a b=>decidable_of_iff _ (Chg.eq_iff (a:=a) (b:=b)).symm
def Chg.c (x:Chg):Nat->PV
 |0=>.raw (.int .i64 x.kind)
 |1=>.raw (.string x.name)
 |2=>x.table.c 0
 |3=>x.table.c 1
 |4=>x.table.c 2
 |5=>x.row.c 0
 |6=>x.row.c 1
 |7=>.raw (.int .i64 x.attr)
 |8=>x.value.c 0
 |9=>x.value.c 1
 |10=>x.value.c 2
 |_=>.any
abbrev bkj(l:List Chg):PV:=psl 11 Chg.c l
abbrev Chg.pc(x:Chg):PC:=.agg [x.c 0,x.c 1,x.c 2,x.c 3,x.c 4,x.c 5,x.c 6,x.c 7,x.c 8,x.c 9,x.c 10]
def txC (l:List Chg):Nat->PV
 |0=>bkj l
 |_=>.any
abbrev txs(l:List (List Chg)):PV:=psl 1 txC l
structure oq where
 attrs:UInt8
 gap:UInt8
 rows:List (List UInt8)
instance:Inhabited oq:=⟨⟨0,0,[]⟩⟩
def oq.c (x:oq):Nat->PV
 |0=>.raw (.int .u8 (x.attrs.toNat:Int))
 |1=>.raw (.int .u8 (x.gap.toNat:Int))
 |2=>bow x.rows
 |_=>.any
abbrev oq.pc(x:oq):PC:=.agg [x.c 0,x.c 1,x.c 2]
structure Opn where
 kind:UInt8
 name:UInt8
 t:oq
 id:Int
 vals:List UInt8
 attr:Int
 value:UInt8
instance:Inhabited Opn:=⟨⟨0,0,default,0,[],0,0⟩⟩
def Opn.c (x:Opn):Nat->PV
 |0=>.raw (.int .u8 (x.kind.toNat:Int))
 |1=>.raw (.int .u8 (x.name.toNat:Int))
 |2=>x.t.c 0
 |3=>x.t.c 1
 |4=>x.t.c 2
 |5=>.raw (.int .i64 x.id)
 |6=>u8s x.vals
 |7=>.raw (.int .i64 x.attr)
 |8=>.raw (.int .u8 (x.value.toNat:Int))
 |_=>.any
abbrev Opn.pc(x:Opn):PC:=.agg [x.c 0,x.c 1,x.c 2,x.c 3,x.c 4,x.c 5,x.c 6,x.c 7,x.c 8]
abbrev bss(l:List Opn):PV:=psl 9 Opn.c l
structure Stt where
 done:List (List Chg)
 undone:List (List Chg)
 opn:Bool
 now:List Chg
instance:Inhabited Stt:=⟨⟨[],[],false,[]⟩⟩
def Stt.c (x:Stt):Nat->PV
 |0=>txs x.done
 |1=>txs x.undone
 |2=>.raw (.bool x.opn)
 |3=>bkj x.now
 |_=>.any
abbrev Stt.pc(x:Stt):PC:=.agg [x.c 0,x.c 1,x.c 2,x.c 3]
def c4{α:Type}[Inhabited α](l:List α)(i:Nat)(h:i<l.length):l.getD i default=l[i]:=by simp[List.getD,bsu h]
end
section
open Go.Proofs
def bnr (a b:AS):a6 bxn 111 [pA a,pA b] (ae [pB (decide (sub a b))]):=by
 refine hpx (nt:=10) Tryz.func111 ?_;refine jo ?_;exact hx8 rfl rfl rfl (⟨ccb (decide_eq_decide.2 (by rw[kg,df];exact bb4.symm)),trivial⟩)
def bwx{p:Prop}(h:p:=by assumption):p:=h
def azy(l:List Fd)(s0:AS):a6 bxn 76 [pP (fdl l),pA s0] (ae [pA (clo l s0)]):=by
 refine hpx (nt:=29) Tryz.func76 ?_;refine d5 ?_;refine cw 0 rfl fun hlen=>?_;refine w_4 ?_;refine ai (ι:=AS) (ka 0 kn) km (fun s=>⟨[(1,some (vA s))],[]⟩) (fun s=>clo l s=clo l s0) (fun s=>4294967296-s.toNat) (s0) (rfl) kk ?_;rintro s hs;refine mz ?_;refine br (ka 0 (ka 5 (ka 9 (ka 10 kn)))) km (fun i=>⟨[(11,some (vI i)),(1,some (vA (fe (l.take i) s)))],[]⟩) l.length kk ?_;rintro i hi;refine w_5 ?_;refine hcd ?_ ?_<;>intro h0
 ·
  refine w_7 ?_;refine m9 0 ?_;refine da ?_;refine hcd ?_ ?_<;>intro h1
  · refine ig ?_;exact lpx (i+1) ⟨⟨zy,⟨_,rfl,(by rw[b1k bww];first|(rw[bju bwx];exact CoR.refl _)|(simp only[bt8];rw[blb bwx];exact CoR.refl _))⟩,tt⟩,trivial⟩
  refine w_5 ?_;exact lpx (i+1) ⟨⟨zy,⟨_,rfl,(by rw[b1k bww];first|(rw[bju bwx];exact CoR.refl _)|(simp only[bt8];rw[blb bwx];exact CoR.refl _))⟩,tt⟩,trivial⟩
 obtain rfl:i=l.length:=by omega
 refine w_7 ?_;refine hcd ?_ ?_<;>intro h2
 ·
  refine w_5 ?_;refine hrr ?_
  have e2:fe l s=s:=by
   have:=df.1 bwx;rwa [bt6]at this
  exact f9 rfl rfl (⟨cci (by rw[bt6,e2,<- hs,bew e2]),trivial⟩)
 refine dn ?_;refine⟨fe l s, ?_, ?_, ?_⟩
 · show clo l (fe l s)=clo l s0
   rw[b64];exact hs
 · have hne:¬fe l s=s:=fun e=>absurd (congrArg asI e) (by rw[bt6]at *;assumption)
   have:=xw (qq (l:=l) (s:=s)) (fun e=>hne e.symm);have:=(fe l s).isLt;show 4294967296-(fe l s).toNat<4294967296-s.toNat;omega
 exact⟨⟨⟨_,rfl,(by rw[bt6];exact CoR.refl _)⟩,tt⟩,trivial⟩
def a2y:goodFn bxn 69:=wgx Tryz.func69
def a8f (n:Int) (l:List Fd):a6 bxn 69 [pI n,pP (fdl l)] (ae [pI (cb n l)]):=by
 refine hpx (nt:=31) Tryz.func69 ?_;refine d5 ?_;refine cw 1 rfl fun hlen=>?_;refine w_9 ?_;refine ak rfl rfl ?_ ?_<;>intro r0
 ·
  have h0:=tz1 r0;(iterate 2 refine k9 (gtf r0) ?_);refine w_7 ?_
  exact hx8 rfl rfl rfl (⟨cci (by rw[cb,if_pos bww]),trivial⟩)
 have h0:=tz2 r0;(iterate 2 refine qy ?_ (hg:=(gff r0)));refine w_2 ?_;refine al _ rfl ?_ ?_<;>intro r1
 · have h1:=tz1 (ax r0 r1);refine v_4 ?_;exact⟨cci (by rw[cb,if_pos bww]),trivial⟩
 have h1:=tz2 (ax r0 r1);refine w_8 ?_;refine hcd ?_ ?_<;>intro h2
 · refine v_4 ?_;exact⟨cci (by rw[cb,if_neg bww,if_pos bww]),trivial⟩
 refine w_9 ?_;refine ai (ι:=Nat) (ka 0 (ka 16 (ka 17 kn))) km (fun i=>⟨[(18,some (vI i))],[]⟩) (fun i=>i<=l.length/\∀j,j<i->inU n (l.getD j default)=true) (fun i=>l.length-i) (0) (⟨bsx _,fun j hj=>absurd hj (bt1 j)⟩) kk ?_;rintro i ⟨hi,hI⟩;refine w_5 ?_;refine hcd ?_ ?_<;>intro h3
 ·
  refine w_7 ?_;refine m9 0 ?_;refine jo ?_;refine hcn ?_ ?_<;>intro h4
  · refine v_4 ?_;exact⟨cci (by rw[cb,if_neg bww,if_neg bww,if_neg (fun e=>absurd (afc (l:=l) (p:=inU n) (i:=i) bww (by rw[btb];exact fun e=>absurd (a9x.2 e) bwx)) (by rw[e];decide))]),trivial⟩
  refine w_5 ?_;refine lpz (i+1) kk ?_;refine⟨by omega,fun j hj=>?_⟩
  rcases bvr (bvv hj)with h|h
  · exact hI j h
  subst h;exact a9x.1 bwx
 obtain rfl:i=l.length:=by omega
 refine v_5 ?_;exact⟨cci (by rw[cb,if_neg bww,if_neg bww,if_pos (aey fun j hj=>hI j hj)]),trivial⟩
def ao9:goodFn bxn 81:=wgx Tryz.func81
def ap1 (n:Int):a6 bxn 81 [pI n] (ae [pA (aa n)]):=by
 refine hpx (nt:=19) Tryz.func81 ?_;refine mz ?_;refine br (ka 0 kn) km (fun i=>⟨[(4,some (vI i)),(3,some (vA (kc i)))],[]⟩) (min n.toNat 32) kk ?_;rintro i hi;refine w_7 ?_;refine ak rfl rfl ?_ ?_<;>intro r0
 ·
  have h0:=tz1 r0;(iterate 2 refine qy ?_ (hg:=(gtt r0)));refine w_2 ?_;refine al _ rfl ?_ ?_<;>intro r1
  · have h1:=tz1 (c5 r0 r1);refine j5 ?_;exact lpx (i+1) ⟨⟨zy,⟨_,rfl,(by simp only[bt8];exact ip (b29 i))⟩,tt⟩,trivial⟩
  have h1:=tz2 (c5 r0 r1);obtain rfl:i=min n.toNat 32:=by omega
  refine v_6 ?_;exact CoL.refl _
 have h0:=tz2 r0;obtain rfl:i=min n.toNat 32:=by omega
 (iterate 2 refine k9 (gft r0) ?_);refine w_9 ?_
 exact hx8 rfl rfl rfl (CoL.refl _)
end
section
def vr (i k:Nat) (hk:k<32):((1:AS)<<<i).getLsbD k=decide (k=i):=by
 rw[BitVec.getLsbD_shiftLeft];by_cases h:k<i
 · simp[h,hk];omega
 by_cases e:k=i
 · subst e;simp[hk]
 have:0<k-i:=by omega
 simp[hk,h,e,BitVec.getLsbD_one];omega
def mh:∀(n k:Nat),k<32->(kc n).getLsbD k=decide (k<n)
 |0,k,hk=>by simp[kc]
 | n+1,k,hk=>by
  rw[aeb,bv7,mh n k hk,vr n k hk];by_cases h:k<n
  · simp[h];omega
  by_cases e:k=n
  · simp[e]
  simp[h,e];omega
def b41{s:AS}{n:Nat}:s>>>n=0<->∀k,k<32->n<=k->s.getLsbD k=false:=by
 constructor
 · intro h k hk hn
   have:=congrArg (fun x:AS=>x.getLsbD (k-n)) h;simp only[bwa]at this;rw[show n+(k-n)=k by omega]at this;simpa using this
 intro h;apply bui;intro i hi;rw[bwa];by_cases hk:n+i<32
 · rw[h (n+i) hk bww];simp
 rw[BitVec.getLsbD_of_ge _ _ bww];simp
def rp{s:AS}{n:Nat}(hn:n<=32):sub s (kc n)<->s>>>n=0:=by
 rw[cz,b41];constructor
 · intro h k hk hle
   rw[btb];intro e;have:=h k hk e;rw[mh n k hk,decide_eq_true_iff]at this;omega
 intro h k hk e;rw[mh n k hk,decide_eq_true_iff];apply Nat.lt_of_not_le;intro hle;rw[h k hk hle]at e;cases e
def a9g {n:Int} (hn:0<=n) (h16:n<=16) {f:Fd}:inU n f=true<->sub f.lhs (aa n)/\sub f.rhs (aa n):=by
 unfold inU aa;rw[decide_eq_true_iff,btz bww,<- rp bww];exact⟨fun h=>⟨ku a5b h,ku acu h⟩,fun h=>a4a h.1 h.2⟩
abbrev Fd.pc(f:Fd):PC:=.agg [f.c 0,f.c 1]
def imp(l:List Fd)(f:Fd):Bool:=decide (sub f.rhs (clo l f.lhs))
end
section
open Go.Proofs
def bgo (l:List Fd) (x:Fd):a6 bxn 24 [pP (fdl l),x.pc] (ae [pB (imp l x)]):=by
 refine hpx (nt:=13) Tryz.func24 ?_;refine sx7 ?_;refine m9 0 ?_;refine w_9 ?_;refine qcx (wgx Tryz.func76) (azy l x.lhs) ?_;refine v_5 ?_;exact⟨ccb (decide_eq_decide.2 j1),trivial⟩
end
end Go.Hx
