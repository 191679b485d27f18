/- A part of the proof: HxEnv Hx19 Hx23 Cs1 Cs3 Ty1 V1 Cs4 V2 Cl1 V3. -/
import Derived.Deep.AppendLies
import Derived.Laws.CopyRow
import Derived.Shelf.Spec.SlicesInsertGrow
import Derived.Test.YtmoggbnlhllhaaaGreatDoorProg
import Derived.Test.YtmoggbnlhllhaaaGreatDoorUx11
set_option linter.all false
set_option maxRecDepth 100000
section
namespace Go.Hx
open Go.Proofs
noncomputable abbrev bqh:=Tryz.prog
def xd:List (Nat×Nat):=[(22,65),(27,9),(28,106),(38,37),(49,57),(57,3),(65,5),(72,136),(76,81),(79,145),(85,35),(104,141),(161,221),(247,4),(272,51),(300,301),(326,38)]
def a4l:List (Nat×TI):=[(1,⟨.func,1,8,some [.nilFunc],false,false,true⟩),(2,⟨.int .i64,1,8,some [.int .i64 0],false,false,true⟩),(3,⟨.int .i64,1,8,some [.int .i64 0],false,false,true⟩),(4,⟨.bool,1,1,some [.bool false],false,false,true⟩),(5,⟨.int .u8,1,1,some [.int .u8 0],false,false,true⟩),(6,⟨.int .u8,1,1,some [.int .u8 0],false,false,true⟩),(7,⟨.struct [(0,2,false),(1,3,false),(2,4,false),(3,6,false)],4,24,some [.int .i64 0, .int .i64 0, .bool false, .int .u8 0],false,false,false⟩),(8,⟨.struct [(0,2,false),(1,3,false),(2,4,false),(3,6,false)],4,24,some [.int .i64 0, .int .i64 0, .bool false, .int .u8 0],false,false,false⟩),(9,⟨.string,1,16,some [.string ⟨#[]⟩],false,false,true⟩),(21,⟨.int .i32,1,4,some [.int .i32 0],false,false,true⟩),(23,⟨.struct [(0,5,false),(1,5,false),(2,22,false)],3,32,some [.int .u8 0, .int .u8 0, .slice none 0 0],false,false,false⟩),(24,⟨.struct [(0,5,false),(1,5,false),(2,22,false)],3,32,some [.int .u8 0, .int .u8 0, .slice none 0 0],false,false,false⟩),(29,⟨.struct [(0,9,false),(1,27,false),(2,28,false)],3,64,some [.string ⟨#[]⟩, .slice none 0 0, .slice none 0 0],false,false,false⟩),(30,⟨.struct [(0,9,false),(1,27,false),(2,28,false)],3,64,some [.string ⟨#[]⟩, .slice none 0 0, .slice none 0 0],false,false,false⟩),(34,⟨.int .u32,1,4,some [.int .u32 0],false,false,true⟩),(35,⟨.int .u32,1,4,some [.int .u32 0],false,false,true⟩),(36,⟨.struct [(0,35,false),(1,35,false)],2,8,some [.int .u32 0, .int .u32 0],false,false,false⟩),(37,⟨.struct [(0,35,false),(1,35,false)],2,8,some [.int .u32 0, .int .u32 0],false,false,false⟩),(41,⟨.int .i64,1,8,some [.int .i64 0],false,false,true⟩),(50,⟨.struct [(0,3,false),(1,49,false)],2,32,some [.int .i64 0, .slice none 0 0],false,false,false⟩),(51,⟨.struct [(0,3,false),(1,49,false)],2,32,some [.int .i64 0, .slice none 0 0],false,false,false⟩),(58,⟨.struct [(0,2,false),(1,2,false)],2,16,some [.int .i64 0, .int .i64 0],false,false,false⟩),(59,⟨.struct [(0,2,false),(1,2,false)],2,16,some [.int .i64 0, .int .i64 0],false,false,false⟩),(66,⟨.struct [(0,65,false),(1,65,false)],2,48,some [.slice none 0 0, .slice none 0 0],false,false,false⟩),(67,⟨.struct [(0,65,false),(1,65,false)],2,48,some [.slice none 0 0, .slice none 0 0],false,false,false⟩),(68,⟨.struct [(0,57,false),(1,57,false)],2,48,some [.slice none 0 0, .slice none 0 0],false,false,false⟩),(69,⟨.struct [(0,57,false),(1,57,false)],2,48,some [.slice none 0 0, .slice none 0 0],false,false,false⟩),(80,⟨.struct [(0,3,false),(1,79,false)],2,32,some [.int .i64 0, .slice none 0 0],false,false,false⟩),(81,⟨.struct [(0,3,false),(1,79,false)],2,32,some [.int .i64 0, .slice none 0 0],false,false,false⟩),(105,⟨.struct [(0,2,false),(1,104,false)],2,32,some [.int .i64 0, .slice none 0 0],false,false,false⟩),(106,⟨.struct [(0,2,false),(1,104,false)],2,32,some [.int .i64 0, .slice none 0 0],false,false,false⟩),(112,⟨.func,1,8,some [.nilFunc],false,false,true⟩),(114,⟨.func,1,8,some [.nilFunc],false,false,true⟩),(117,⟨.int .u64,1,8,some [.int .u64 0],false,false,true⟩),(118,⟨.struct [(0,117,false),(1,117,false)],2,16,some [.int .u64 0, .int .u64 0],false,false,false⟩),(119,⟨.struct [(0,117,false),(1,117,false)],2,16,some [.int .u64 0, .int .u64 0],false,false,false⟩),(123,⟨.func,1,8,some [.nilFunc],false,false,true⟩),(128,⟨.map 136 4,1,8,some [.map none],false,false,true⟩),(129,⟨.struct [(0,30,false),(3,128,false)],4,72,some [.string ⟨#[]⟩, .slice none 0 0, .slice none 0 0, .map none],false,false,false⟩),(130,⟨.struct [(0,30,false),(3,128,false)],4,72,some [.string ⟨#[]⟩, .slice none 0 0, .slice none 0 0, .map none],false,false,false⟩),(135,⟨.struct [(0,35,false),(1,3,false),(2,3,false)],3,24,some [.int .u32 0, .int .i64 0, .int .i64 0],false,false,false⟩),(136,⟨.struct [(0,35,false),(1,3,false),(2,3,false)],3,24,some [.int .u32 0, .int .i64 0, .int .i64 0],false,false,false⟩),(138,⟨.func,1,8,some [.nilFunc],false,false,true⟩),(139,⟨.func,1,8,some [.nilFunc],false,false,true⟩),(140,⟨.struct [(0,3,false),(1,2,false),(2,9,false)],3,32,some [.int .i64 0, .int .i64 0, .string ⟨#[]⟩],false,false,false⟩),(141,⟨.struct [(0,3,false),(1,2,false),(2,9,false)],3,32,some [.int .i64 0, .int .i64 0, .string ⟨#[]⟩],false,false,false⟩),(142,⟨.struct [(0,3,false),(1,3,false),(2,141,false)],5,48,some [.int .i64 0, .int .i64 0, .int .i64 0, .int .i64 0, .string ⟨#[]⟩],false,false,false⟩),(143,⟨.struct [(0,3,false),(1,3,false),(2,141,false)],5,48,some [.int .i64 0, .int .i64 0, .int .i64 0, .int .i64 0, .string ⟨#[]⟩],false,false,false⟩),(144,⟨.struct [(0,143,false),(5,3,false),(6,143,false)],11,104,some [.int .i64 0, .int .i64 0, .int .i64 0, .int .i64 0, .string ⟨#[]⟩, .int .i64 0, .int .i64 0, .int .i64 0, .int .i64 0, .int .i64 0, .string ⟨#[]⟩],false,false,false⟩),(145,⟨.struct [(0,143,false),(5,3,false),(6,143,false)],11,104,some [.int .i64 0, .int .i64 0, .int .i64 0, .int .i64 0, .string ⟨#[]⟩, .int .i64 0, .int .i64 0, .int .i64 0, .int .i64 0, .int .i64 0, .string ⟨#[]⟩],false,false,false⟩),(150,⟨.func,1,8,some [.nilFunc],false,false,true⟩),(168,⟨.func,1,8,some [.nilFunc],false,false,true⟩),(170,⟨.pointer 172,1,8,some [.pointer none],false,false,true⟩),(171,⟨.struct [(0,170,false),(1,65,false)],2,32,some [.pointer none, .slice none 0 0],false,false,false⟩),(172,⟨.struct [(0,170,false),(1,65,false)],2,32,some [.pointer none, .slice none 0 0],false,false,false⟩),(183,⟨.int .u64,1,8,some [.int .u64 0],false,false,true⟩),(186,⟨.func,1,8,some [.nilFunc],false,false,true⟩),(193,⟨.func,1,8,some [.nilFunc],false,false,true⟩),(194,⟨.func,1,8,some [.nilFunc],false,false,true⟩),(196,⟨.func,1,8,some [.nilFunc],false,false,true⟩),(198,⟨.func,1,8,some [.nilFunc],false,false,true⟩),(199,⟨.func,1,8,some [.nilFunc],false,false,true⟩),(206,⟨.func,1,8,some [.nilFunc],false,false,true⟩),(212,⟨.func,1,8,some [.nilFunc],false,false,true⟩),(213,⟨.struct [(0,3,false),(1,57,false)],2,32,some [.int .i64 0, .slice none 0 0],false,false,false⟩),(214,⟨.struct [(0,3,false),(1,57,false)],2,32,some [.int .i64 0, .slice none 0 0],false,false,false⟩),(216,⟨.map 35 57,1,8,some [.map none],false,false,true⟩),(219,⟨.func,1,8,some [.nilFunc],false,false,true⟩),(220,⟨.struct [(0,35,false),(1,2,false),(2,2,false)],3,24,some [.int .u32 0, .int .i64 0, .int .i64 0],false,false,false⟩),(221,⟨.struct [(0,35,false),(1,2,false),(2,2,false)],3,24,some [.int .u32 0, .int .i64 0, .int .i64 0],false,false,false⟩),(222,⟨.map 35 224,1,8,some [.map none],false,false,true⟩),(224,⟨.array 2 2,2,16,some [.int .i64 0, .int .i64 0],false,false,false⟩),(228,⟨.func,1,8,some [.nilFunc],false,false,true⟩),(233,⟨.pointer 5,1,8,some [.pointer none],false,false,true⟩),(234,⟨.map 9 3,1,8,some [.map none],false,false,true⟩),(237,⟨.int .i64,1,8,some [.int .i64 0],false,false,true⟩),(256,⟨.func,1,8,some [.nilFunc],false,false,true⟩),(265,⟨.func,1,8,some [.nilFunc],false,false,true⟩),(269,⟨.map 35 35,1,8,some [.map none],false,false,true⟩),(278,⟨.array 32 5,32,32,some [.int .u8 0, .int .u8 0, .int .u8 0, .int .u8 0, .int .u8 0, .int .u8 0, .int .u8 0, .int .u8 0, .int .u8 0, .int .u8 0, .int .u8 0, .int .u8 0, .int .u8 0, .int .u8 0, .int .u8 0, .int .u8 0, .int .u8 0, .int .u8 0, .int .u8 0, .int .u8 0, .int .u8 0, .int .u8 0, .int .u8 0, .int .u8 0, .int .u8 0, .int .u8 0, .int .u8 0, .int .u8 0, .int .u8 0, .int .u8 0, .int .u8 0, .int .u8 0],false,false,false⟩),(281,⟨.int .u64,1,8,some [.int .u64 0],false,false,true⟩),(285,⟨.pointer 3,1,8,some [.pointer none],false,false,true⟩),(301,⟨.array 2 3,2,16,some [.int .i64 0, .int .i64 0],false,false,false⟩),(303,⟨.pointer 281,1,8,some [.pointer none],false,false,true⟩),(320,⟨.map 301 3,1,8,some [.map none],false,false,true⟩)]
def ad4 {α:Type}:List (Nat×α)->Nat->Option α
 | [],_=>none
 |(a,x)::r,n=>bif Nat.beq a n then some x else ad4 r n
def ci:Env:=fun t=>match ad4 xd t with|some e=>some ⟨.slice e,1,24,some [.slice none 0 0],false,false,true⟩|none=>ad4 a4l t
def a9i {α:Type}:∀{l:List (Nat×α)} {t:Nat} {i:α},ad4 l t=some i->(t,i)∈l
 | (a,x)::r,t,i,h=>by
  simp only[ad4]at h
  cases hb:Nat.beq a t with
  |true=>rw[hb]at h;cases h;rw[bmt hb];exact bmp
  |false=>rw[hb]at h;exact bmr _ (a9i h)
def ay5:a4l.map (fun p=>tx bqh p.1)=a4l.map (fun p=>some p.2):=by kernel_rfl
def at0:xd.map (fun p=>tx bqh p.1)=xd.map (fun p=>some ⟨.slice p.2,1,24,some [.slice none 0 0],false,false,true⟩):=by kernel_rfl
def bw:ck bqh ci:=fun t i h=>by
 unfold ci at h
 cases hs:ad4 xd t with
 |some e=>rw[hs]at h;cases h;exact List.map_inj_left.1 at0 (t,e) (a9i hs)
 |none=>rw[hs]at h;exact List.map_inj_left.1 ay5 (t,i) (a9i h)
def a6e:bqh.follows .mixedOrders=true:=by kernel_rfl
end Go.Hx
namespace Go.Hx
open Go.Proofs
section
variable {ro:Option Nat}{P:Program}{E:Env}{nt:Nat}{ops:Array Oper}{i:Nat}{o:Oper}{st:HSt}{L:List Nat}{K:List Tr->HSt->Prop}{Q:Exit->HSt->Prop}
section
variable {gb:Bool}
def qy {out:Out} (hT:Reg P E nt ops L (st.after o.dst (some out.val) []) fun T sf=>K (⟨i,a9o true out.val.ids,looks st.den o,cb st.den o.dst [],f8 E st.den o⟩::T) sf) (hi:ops[i]? = some o:=by exact rfl) (hw:b5 ops st.den o=some gb:=by exact rfl) (hd:cj nt o.dst=true:=by exact rfl) (hq':hq E true st.den.o (ev st.den) o.op=some out:=by exact rfl) (hg:gb=true:=by exact rfl) (hp:out.pre:=by first|exact trivial|(simp only[j4,inR,l8,ml];omega)|exact aje _ _|exact⟨trivial,trivial⟩|exact⟨trivial,bm0 rfl⟩|(try dsimp only)<;>((repeat' apply And.intro)<;>first|trivial|rfl|omega|(simp only[eo,c5];omega)|assumption|exact bm0 rfl)):
 Reg P E nt ops (i::L) st K:=fb true hi hw hd hq' hg hp hT
def k9(hg:gb=false)(hT:Reg P E nt ops L (st.after o.dst (some (.tup [])) []) fun T sf=>K (⟨i,a9o true [],looks st.den o,cb st.den o.dst [],none⟩::T) sf)(hi:ops[i]? = some o:=by exact rfl)(hw:b5 ops st.den o=some gb:=by exact rfl)(hd:cj nt o.dst=true:=by exact rfl):Reg P E nt ops (i::L) st K:=apu hi hw hd hg hT
def m9(id:Nat){nw:New}(hT:Reg P E nt ops L (st.after o.dst (some nw.val) [(id,some nw.ob)]) fun T sf=>K (⟨i,⟨id,false,true, .tup [],[id],[id],nw.val.ids++nw.ob.ids⟩,looks st.den o,cb st.den o.dst [(id,some nw.ob)],none⟩::T) sf)(hi:ops[i]? = some o:=by exact rfl)(hw:b5 ops st.den o=some gb:=by exact rfl)(hd:cj nt o.dst=true:=by exact rfl)(hq':ha E (ev st.den) id o.op=some nw:=by exact rfl)(hn:jz id st=true:=by exact rfl)(hg:gb=true:=by exact rfl)(hp:nw.pre:=by first|exact trivial|(try dsimp only)<;>((repeat' apply And.intro)<;>first|trivial|rfl|omega|assumption)):Reg P E nt ops (i::L) st K:=a7k id hi hw hd hq' hn hg hp hT
def s9{u:Upd}(hT:Reg P E nt ops L (st.after o.dst none [(u.id,some u.ob)]) fun T sf=>K (⟨i,⟨0,false,true, .tup [],[u.id],[],u.ob.ids⟩,looks st.den o,cb st.den o.dst [(u.id,some u.ob)],f8 E st.den o⟩::T) sf)(hi:ops[i]? = some o:=by exact rfl)(hw:b5 ops st.den o=some gb:=by exact rfl)(hd:cj nt o.dst=true:=by exact rfl)(hq':hs E st.den.o (ev st.den) o.op=some u:=by exact rfl)(hg:gb=true:=by exact rfl)(hp:u.pre:=by first|exact bm0 rfl|(try dsimp only)<;>((repeat' apply And.intro)<;>first|trivial|rfl|omega|(simp only[eo,c5];omega)|assumption|exact bm0 rfl)):Reg P E nt ops (i::L) st K:=ahu hi hw hd hq' hg hp hT
variable {p:Prop}
def f9{rs:List ResultVar}{res:List PC}{q:Prop}{l:List HC}{vs:List PC}(h1:yh E st.den rs=some (p,l))(h2:oj st.den.o l=some (q,vs))(hc:CoL vs res)(hp:p:=by(repeat' apply And.intro)<;>first|trivial|exact bm0 rfl|rfl)(hq:q:=by(repeat' apply And.intro)<;>first|trivial|exact bm0 rfl|rfl):ace E st rs res:=⟨p,l,q,vs,h1,hp,h2,hq,hc⟩
def c9{f:Option HR}{x:HR}(h:f=some x:=by exact rfl):∃y,f=some y/\CoR y x:=⟨x,h,CoR.refl x⟩
def u9{f:Option aa}{x:aa}(h:f=some x:=by exact rfl):∃y,f=some y/\CoO y x:=⟨x,h,CoO.refl x⟩
def zy{f:Option HR}{x y:HR}(h:f=some y:=by exact rfl)(c:CoR y x:=by first|exact CoR.refl _|exact coi bpw|exact cob (by simp_all)):∃y,f=some y/\CoR y x:=⟨y,h,c⟩
def l9{a b:Nat}(h:Nat.ble a b=true:=by exact rfl):a<=b:=bm0 h
def qcx{cl:Call}{f:FuncId}{fst caps args vs:List PC}{b:Bool}{res:PR}(hf:a6 P f)(hpure:a7 P f args res)(hT:Reg P E nt ops L (st.after o.dst (some res.toH) []) fun T sf=>K (⟨i,⟨0,false,true,res,[],[],[]⟩,looks st.den o,cb st.den o.dst [],none⟩::T) sf)(hi:ops[i]? = some o:=by exact rfl)(hw:b5 ops st.den o=some gb:=by exact rfl)(hd:cj nt o.dst=true:=by exact rfl)(ho:o.op=.call cl:=by exact rfl)(hc:callee (ev st.den) cl=some (f,fst,caps):=by exact rfl)(hv:ju st.den.o (ev st.den) cl.args.toList=some (p,vs,b):=by exact rfl)(hco:CoL (fst++(vs++caps)) args:=by exact CoL.refl _)(hb:(!b||res.flat)=true:=by exact rfl)(hg:gb=true:=by exact rfl)(hp:p:=by(try dsimp only)<;>((repeat' apply And.intro)<;>first|trivial|rfl|omega|assumption)):Reg P E nt ops (i::L) st K:=ap9 hi hw hd ho hc hv hf hpure hco hg hp hb hT
def wgx {f : FuncId} {fn : Func} (h : P.funcs[f]? = some fn) (h1 : (fn.name == "runtime.NumGoroutine") = false := by kernel_rfl) (h2 : fn.body.isNone = false := by kernel_rfl) : a6 P f := ⟨fn, h, h1, h2⟩
def aqb[Decidable p](h:decide p=true):p:=of_decide_eq_true h
def aro[Decidable p](h:decide p=false):¬p:=of_decide_eq_false h
def ty{n:Nat}:((n:Nat):Int).toNat=n:=bmc n
end
end
def gy{ro:Option Nat}{nt id:Nat}{ops:Array Oper}{st:HSt}{Q:Exit->HSt->Prop}(h:Reg bqh ci nt ops (List.range ops.size) st fun _ sf=>Q .normal sf):HW (ro:=ro) bqh nt (.region id ops false) st Q:=afd bw h
end Go.Hx
namespace Go.Hx
open Go.Proofs
section
variable {Q:Exit->HSt->Prop}
def sx7{ro:Option Nat}{nt id:Nat}{ops:Array Oper}{st:HSt}{y:Code}(h:Reg bqh ci nt ops (List.range ops.size) st fun _ sf=>b9d (ro:=ro) bqh nt y Q .normal sf):HW (ro:=ro) bqh nt (.seq (.region id ops false) y) st Q:=eq (afd bw h)
def hx8{ro:Option Nat}{P:Program}{E:Env}{nt:Nat}{st:HSt}{rs:List ResultVar}{res:List PC}{p q:Prop}{l:List HC}{vs:List PC}(hQ:Q .ret st=((Exit.ret=.normal\/Exit.ret=.ret)/\ace E st rs res))(h1:yh E st.den rs=some (p,l))(h2:oj st.den.o l=some (q,vs))(hc:CoL vs res)(hp:p:=by(repeat' apply And.intro)<;>first|trivial|exact bm0 rfl|rfl)(hq:q:=by(repeat' apply And.intro)<;>first|trivial|exact bm0 rfl|rfl):HW (ro:=ro) P nt .ret st Q:=abr (hQ▸⟨.inr rfl,p,l,q,vs,h1,hp,h2,hq,hc⟩)
end
end Go.Hx
namespace Go.Hx
open Go.Proofs
def tz1{p q:Prop}{d:Decidable p}(h:decide p=true)(e:p=q:=by first|(simp only[ty];done)|(simp only[ty];exact rfl)|exact rfl):q:=e▸of_decide_eq_true h
def tz2{p q:Prop}{d:Decidable p}(h:decide p=false)(e:(¬p)=q:=by first|(simp only[ty];done)|(simp only[ty];exact rfl)|exact rfl):q:=e▸of_decide_eq_false h
section
variable {ro:Option Nat}{P:Program}{nt:Nat}{st:HSt}{Q:Exit->HSt->Prop}{c:Operand}{x y:Code}{p q q':Prop}{d:Decidable p}
def hcd (ht:q->HW (ro:=ro) P nt x st Q) (hf:q'->HW (ro:=ro) P nt y st Q) (hc:ev st.den c=some (.v (.one (.p (.raw (.bool (@decide p d)))))):=by exact rfl) (e:p=q:=by first|(simp only[ty];done)|(simp only[ty];exact rfl)|exact rfl) (e':(¬p)=q':=by first|(simp only[ty];done)|(simp only[ty];exact rfl)|exact rfl):HW (ro:=ro) P nt (.cond c x y) st Q :=
 aw _ hc (fun h=>ht (e▸of_decide_eq_true h)) (fun h=>hf (e'▸of_decide_eq_false h))
def hcn (ht:q'->HW (ro:=ro) P nt x st Q) (hf:q->HW (ro:=ro) P nt y st Q) (hc:ev st.den c=some (.v (.one (.p (.raw (.bool (!(@decide p d))))))):=by exact rfl) (e:p=q:=by first|(simp only[ty];done)|(simp only[ty];exact rfl)|exact rfl) (e':(¬p)=q':=by first|(simp only[ty];done)|(simp only[ty];exact rfl)|exact rfl):HW (ro:=ro) P nt (.cond c x y) st Q :=
 aw _ hc (fun h=>ht (e'▸of_decide_eq_false (dc h))) (fun h=>hf (e▸of_decide_eq_true (df h)))
def hcb{b:Bool}(ht:b=true->HW (ro:=ro) P nt x st Q)(hf:b=false->HW (ro:=ro) P nt y st Q)(hc:ev st.den c=some (.v (.one (.p (.raw (.bool b))))):=by exact rfl):HW (ro:=ro) P nt (.cond c x y) st Q:=aw _ hc ht hf
def hcv {b:Bool} (ht:b=false->HW (ro:=ro) P nt x st Q) (hf:b=true->HW (ro:=ro) P nt y st Q) (hc:ev st.den c=some (.v (.one (.p (.raw (.bool (!b)))))):=by exact rfl):HW (ro:=ro) P nt (.cond c x y) st Q :=
 aw _ hc (fun h=>ht (dc h)) (fun h=>hf (df h))
section
variable {l:List (Nat×Option HR)}
def ka{x:HR}{r:List (Nat×Option HR)}(d:Nat)(h:qf r l)(e:b6 l d=some x:=by exact rfl):qf ((d,some x)::r) l:=⟨⟨x,e,CoR.refl x⟩,h⟩
def kb{x:aa}{r l:List (Nat×Option aa)}(d:Nat)(h:rt r l)(e:b6 l d=some x:=by exact rfl):rt ((d,some x)::r) l:=⟨⟨x,e,CoO.refl x⟩,h⟩
def kn:qf [] l:=trivial
def km{l:List (Nat×Option aa)}:rt [] l:=trivial
variable {ko:List (Nat×Option aa)}{kt:List (Nat×Option HR)}{ι:Type}
def ar{body:Code}(hT:qf kt st.t)(hO:rt ko st.o)(J:ι->HSt)(p:ι->Prop)(μ:ι->Nat)(i0:ι)(h0:p i0)(hs:Sub (J i0) st)(round:∀i,p i->HW (ro:=ro) P nt body ((J i).app ⟨kt,ko⟩) (aha (fun i=>(J i).app ⟨kt,ko⟩) p μ i Q)):HW (ro:=ro) P nt (.loop body) st Q:=ak6 ⟨kt,ko⟩ ⟨hT,hO⟩ J p μ i0 h0 hs round
def dn{x y:Code}(hT:qf kt st.t)(hO:rt ko st.o)(J:ι->HSt)(p:ι->Prop)(h1:HW (ro:=ro) P nt x st (azs (fun i=>(J i).app ⟨kt,ko⟩) p Q))(h2:∀i,p i->HW (ro:=ro) P nt y ((J i).app ⟨kt,ko⟩) Q):HW (ro:=ro) P nt (.seq x y) st Q:=aix ⟨kt,ko⟩ ⟨hT,hO⟩ J p h1 h2
def tt{p:Prop}(h:p:=by repeat (first|exact trivial|refine⟨⟨_,rfl,CoR.refl _⟩, ?_⟩|refine⟨⟨_,rfl,(by first|exact CoR.refl _|exact coi bpw|exact cob (by simp_all))⟩, ?_⟩)):p:=h
def uu{p:Prop}(h:p:=by repeat (first|exact trivial|refine⟨⟨_,rfl,CoO.refl _⟩, ?_⟩)):p:=h
def kk{a b:HSt}(h:qf a.t b.t:=by exact tt)(h2:rt a.o b.o:=by exact uu):Sub a b:=⟨h,h2⟩
def c7{body:Code}(hT:qf kt st.t)(hO:rt ko st.o)(J:Nat->HSt)(N:Nat)(hs:Sub (J 0) st)(round:∀i,i<=N->HW (ro:=ro) P nt body ((J i).app ⟨kt,ko⟩) (aha (fun i=>(J i).app ⟨kt,ko⟩) (fun i=>i<=N) (fun i=>N-i) i Q)):HW (ro:=ro) P nt (.loop body) st Q:=ak6 ⟨kt,ko⟩ ⟨hT,hO⟩ J (fun i=>i<=N) (fun i=>N-i) 0 (bm3 _) hs round
def bhy (S:HSt) (Q:Exit->HSt->Prop):Exit->HSt->Prop
 | .normal,st=>Sub S st
 |e,st=>Q e st
def yy {x y:Code} (hT:qf kt st.t) (hO:rt ko st.o) (J:HSt) (h1:HW (ro:=ro) P nt x st (bhy (J.app ⟨kt,ko⟩) Q)) (h2:HW (ro:=ro) P nt y (J.app ⟨kt,ko⟩) Q):HW (ro:=ro) P nt (.seq x y) st Q :=
 aix (ι:=Unit) ⟨kt,ko⟩ ⟨hT,hO⟩ (fun _=>J) (fun _=>True) (aon h1 fun e st' h=>by cases e<;>first|exact⟨(),trivial,h⟩|exact h) fun _ _=>h2
def hcT(h:HW (ro:=ro) P nt x st Q)(hc:ev st.den c=some (.v (.one (.p (.raw (.bool true))))):=by exact rfl):HW (ro:=ro) P nt (.cond c x y) st Q:=aw _ hc (fun _=>h) (fun e=>Bool.noConfusion e)
def hcF(h:HW (ro:=ro) P nt y st Q)(hc:ev st.den c=some (.v (.one (.p (.raw (.bool false))))):=by exact rfl):HW (ro:=ro) P nt (.cond c x y) st Q:=aw _ hc (fun e=>Bool.noConfusion e) (fun _=>h)
def hrr{X:Prop}(h:X)(hQ:Q .ret st=((Exit.ret=.normal\/Exit.ret=.ret)/\X):=by exact rfl):HW (ro:=ro) P nt .ret st Q:=abr (hQ▸⟨.inr rfl,h⟩)
def hxr {E:Env} {rs:List ResultVar} {res:List PC} {p q:Prop} {l:List HC} {vs:List PC} (hc:CoL vs res) (hQ:Q .ret st=((Exit.ret=.normal\/Exit.ret=.ret)/\ace E st rs res):=by exact rfl) (h1:yh E st.den rs=some (p,l):=by exact rfl) (h2:oj st.den.o l=some (q,vs):=by exact rfl)
 (hp:p:=by(repeat' apply And.intro)<;>first|trivial|exact bm0 rfl|rfl) (hq:q:=by(repeat' apply And.intro)<;>first|trivial|exact bm0 rfl|rfl):HW (ro:=ro) P nt .ret st Q:=abr (hQ▸⟨.inr rfl,p,l,q,vs,h1,hp,h2,hq,hc⟩)
def kd{a b:Prop}(h:b)(k:a:=by kernel_rfl):a/\b:=⟨k,h⟩
def lpz{I:ι->HSt}{pp:ι->Prop}{μ:ι->Nat}{k:Nat}(i':ι)(hs:Sub (I i') st)(hp:pp i')(hm:μ i'<k:=by first|omega|(dsimp only;omega)):∃i',pp i'/\μ i'<k/\Sub (I i') st:=⟨i',hp,hm,hs⟩
def lpx{I:ι->HSt}{pp:ι->Prop}{μ:ι->Nat}{k:Nat}(i':ι)(hs:Sub (I i') st)(hp:pp i':=by first|trivial|(show _+1<=_;omega))(hm:μ i'<k:=by first|omega|(dsimp only;omega)):∃i',pp i'/\μ i'<k/\Sub (I i') st:=⟨i',hp,hm,hs⟩
end
end
def hpx{nt:Nat}{f:FuncId}{fn:Func}{body:Code}{args res:List PC}(hf:bqh.funcs[f]? = some fn)(h:HW (ro:=none) bqh nt body ⟨zm 0 args,[]⟩ fun e st=>(e=.normal\/e=.ret)/\ace ci st fn.results.toList res)(hb:fn.body=some body:=by exact rfl)(hn:fn.ntmps=nt:=by exact rfl)(hl:args.length<=nt:=by exact bm0 rfl):a7 bqh f args (af res):=ayk bw hf hb hn hl h
def hfx{nt:Nat}{f:FuncId}{fn:Func}{body:Code}{args:List HC}{o1 o2:List (Nat×aa)}{res:HR}{fx:List Nat}(hf:bqh.funcs[f]? = some fn)(h:HW (ro:=none) bqh nt body ⟨zx 0 args,kf o1⟩ fun e st=>(e=.normal\/e=.ret)/\b7e ci st fn.results.toList res o2)(hb:fn.body=some body:=by exact rfl)(hn:fn.ntmps=nt:=by exact rfl)(hl:args.length<=nt:=by exact bm0 rfl)(hx:fx.all (Nat.ble 1000)=true:=by exact rfl):dg bqh f args o1 res o2 fx:=b6b bw hf hb hn hl hx h
def gd{ro:Option Nat}{nt id:Nat}{ops:Array Oper}{st:HSt}{Q:Exit->HSt->Prop}(h:Reg bqh ci nt ops (List.range ops.size) st fun T sf=>ack ops T=true/\Q .normal sf):HW (ro:=ro) bqh nt (.region id ops true) st Q:=b1y bw a6e _ h
section
variable {P:Program}{E:Env}{nt:Nat}{ops:Array Oper}{i:Nat}{o:Oper}{st:HSt}{L:List Nat}{K:List Tr->HSt->Prop}
def rz9 (id:Nat) (wb:Bool) {u:App} {gb:Bool} (hT:Reg P E nt ops L (st.after o.dst (some u.val) [(u.id,some u.ob)]) fun T sf=>K (⟨i,⟨id,wb,true, .tup [],[u.id],if u.new then[id] else[],u.val.ids++u.ob.ids⟩,looks st.den o,cb st.den o.dst [(u.id,some u.ob)],none⟩::T) sf)
 (hi:ops[i]? = some o:=by exact rfl) (hw:b5 ops st.den o=some gb:=by exact rfl) (hd:cj nt o.dst=true:=by exact rfl) (hq':hap E st.den.o (ev st.den) id wb o.op=some u:=by exact rfl) (hn:(!u.new||jz id st)=true:=by exact rfl) (hg:gb=true:=by exact rfl)
 (hp:u.pre:=by(try dsimp only)<;>((repeat' apply And.intro)<;>first|trivial|rfl|assumption|omega|(simp only[bmc];omega)|(simp only[eo,c5];omega)|exact Or.inl rfl|exact Or.inr rfl|exact(fun _=>Or.inl rfl)|exact(fun _=>Or.inr (bm0 rfl))|exact bm0 rfl|(intro h;cases h;done))):Reg P E nt ops (i::L) st K:=acb id wb hi hw hd hq' hn hg hp hT
def fc9 {cl:Call} {f:FuncId} {caps hcs:List HC} {args:List HC} {o1 o2:List (Nat×aa)} {res:HR} {fx:List Nat} {gb:Bool} (hf:a6 P f) (hfun:dg P f args o1 res o2 fx) (hsub:aeh o1 st.den.o)
 (hT:Reg P E nt ops L (st.after o.dst (some res) (ww o1 o2)) fun T sf=>K (⟨i,⟨0,false,true, .tup [],keys o1++keys o2,ak0 o1 o2 fx,res.ids++a9x o2⟩,looks st.den o,cb st.den o.dst (ww o1 o2),none⟩::T) sf)
 (hi:ops[i]? = some o:=by exact rfl) (hw:b5 ops st.den o=some gb:=by exact rfl) (hd:cj nt o.dst=true:=by exact rfl) (ho:o.op=.call cl:=by exact rfl) (hc:ul (ev st.den) cl=some (f,caps):=by exact rfl) (hv:qu (ev st.den) cl.args.toList=some hcs:=by exact rfl) (hco:tw (hcs++caps) args:=by exact tw.refl _) (hB:fcB o1 o2 res fx st=true:=by exact rfl) (hg:gb=true:=by exact rfl):Reg P E nt ops (i::L) st K:=nj hi hw hd ho hc hv hf hfun hco hsub hB hg hT
end
end Go.Hx
end
section
namespace Go.Hx
structure Hq (Q:Prop):Prop where
 v:Q
section
variable {P Q:Prop}
def w_1(hQ:Q)(h:Hq Q->P:=by intro h;(first|refine qy ?_|refine d5 ?_|refine eq ?_|refine gy ?_|refine s9 ?_|refine gd ?_|refine kd ?_|refine hcT ?_|refine hcF ?_|refine ej ?_|refine abr ?_|refine a2c ?_|refine dz ?_);exact h.v):P:=h ⟨hQ⟩
def w_2(hQ:Q)(h:Hq Q->P:=by intro h;(iterate 2 refine w_1 ?_);exact h.v):P:=h ⟨hQ⟩
def w_3(hQ:Q)(h:Hq Q->P:=by intro h;(iterate 3 refine w_1 ?_);exact h.v):P:=h ⟨hQ⟩
def w_4(hQ:Q)(h:Hq Q->P:=by intro h;(iterate 4 refine w_1 ?_);exact h.v):P:=h ⟨hQ⟩
def w_5(hQ:Q)(h:Hq Q->P:=by intro h;(iterate 5 refine w_1 ?_);exact h.v):P:=h ⟨hQ⟩
def w_6(hQ:Q)(h:Hq Q->P:=by intro h;(iterate 6 refine w_1 ?_);exact h.v):P:=h ⟨hQ⟩
def w_7(hQ:Q)(h:Hq Q->P:=by intro h;(iterate 7 refine w_1 ?_);exact h.v):P:=h ⟨hQ⟩
def w_8(hQ:Q)(h:Hq Q->P:=by intro h;(iterate 8 refine w_1 ?_);exact h.v):P:=h ⟨hQ⟩
def w_9(hQ:Q)(h:Hq Q->P:=by intro h;(iterate 9 refine w_1 ?_);exact h.v):P:=h ⟨hQ⟩
def eu(hQ:Q)(h:Hq Q->P:=by intro h;(iterate 10 refine w_1 ?_);exact h.v):P:=h ⟨hQ⟩
def jb(hQ:Q)(h:Hq Q->P:=by intro h;(iterate 11 refine w_1 ?_);exact h.v):P:=h ⟨hQ⟩
def l6(hQ:Q)(h:Hq Q->P:=by intro h;(iterate 12 refine w_1 ?_);exact h.v):P:=h ⟨hQ⟩
def l5(hQ:Q)(h:Hq Q->P:=by intro h;(iterate 13 refine w_1 ?_);exact h.v):P:=h ⟨hQ⟩
def nc(hQ:Q)(h:Hq Q->P:=by intro h;(iterate 14 refine w_1 ?_);exact h.v):P:=h ⟨hQ⟩
def jd(hQ:Q)(h:Hq Q->P:=by intro h;(iterate 15 refine w_1 ?_);exact h.v):P:=h ⟨hQ⟩
def tg(hQ:Q)(h:Hq Q->P:=by intro h;(iterate 16 refine w_1 ?_);exact h.v):P:=h ⟨hQ⟩
def sb(hQ:Q)(h:Hq Q->P:=by intro h;(iterate 17 refine w_1 ?_);exact h.v):P:=h ⟨hQ⟩
def aam(hQ:Q)(h:Hq Q->P:=by intro h;(iterate 18 refine w_1 ?_);exact h.v):P:=h ⟨hQ⟩
def bh4(hQ:Q)(h:Hq Q->P:=by intro h;(iterate 19 refine w_1 ?_);exact h.v):P:=h ⟨hQ⟩
def as1(hQ:Q)(h:Hq Q->P:=by intro h;(iterate 20 refine w_1 ?_);exact h.v):P:=h ⟨hQ⟩
def aqu(hQ:Q)(h:Hq Q->P:=by intro h;(iterate 21 refine w_1 ?_);exact h.v):P:=h ⟨hQ⟩
def arw(hQ:Q)(h:Hq Q->P:=by intro h;(iterate 22 refine w_1 ?_);exact h.v):P:=h ⟨hQ⟩
def aya(hQ:Q)(h:Hq Q->P:=by intro h;(iterate 23 refine w_1 ?_);exact h.v):P:=h ⟨hQ⟩
def bhv(hQ:Q)(h:Hq Q->P:=by intro h;(iterate 25 refine w_1 ?_);exact h.v):P:=h ⟨hQ⟩
def bhs(hQ:Q)(h:Hq Q->P:=by intro h;(iterate 26 refine w_1 ?_);exact h.v):P:=h ⟨hQ⟩
def bgr(hQ:Q)(h:Hq Q->P:=by intro h;(iterate 28 refine w_1 ?_);exact h.v):P:=h ⟨hQ⟩
def axn(hQ:Q)(h:Hq Q->P:=by intro h;(iterate 29 refine w_1 ?_);exact h.v):P:=h ⟨hQ⟩
end
end Go.Hx
end
section
namespace Go.Hx
theorem v_2{P Q:Prop}(hQ:Q)(h:Hq Q->P:=by intro h;(iterate 2 refine w_1 ?_);refine hxr ?_;exact h.v):P:=h ⟨hQ⟩
theorem v_3{P Q:Prop}(hQ:Q)(h:Hq Q->P:=by intro h;(iterate 3 refine w_1 ?_);refine hxr ?_;exact h.v):P:=h ⟨hQ⟩
theorem v_4{P Q:Prop}(hQ:Q)(h:Hq Q->P:=by intro h;(iterate 4 refine w_1 ?_);refine hxr ?_;exact h.v):P:=h ⟨hQ⟩
theorem v_5{P Q:Prop}(hQ:Q)(h:Hq Q->P:=by intro h;(iterate 5 refine w_1 ?_);refine hxr ?_;exact h.v):P:=h ⟨hQ⟩
theorem v_6{P Q:Prop}(hQ:Q)(h:Hq Q->P:=by intro h;(iterate 6 refine w_1 ?_);refine hxr ?_;exact h.v):P:=h ⟨hQ⟩
theorem v_7{P Q:Prop}(hQ:Q)(h:Hq Q->P:=by intro h;(iterate 7 refine w_1 ?_);refine hxr ?_;exact h.v):P:=h ⟨hQ⟩
theorem v_8{P Q:Prop}(hQ:Q)(h:Hq Q->P:=by intro h;(iterate 8 refine w_1 ?_);refine hxr ?_;exact h.v):P:=h ⟨hQ⟩
end Go.Hx
end
namespace Go.Hx
section
open Go.Proofs Go.Lib Go.RowKit
def baa (w:World) (o:Obj) {r:Nat} (h:r<w.heap.size):(w.alloc o).heap[r]? = w.heap[r]?:=by
 show(w.heap.push o)[r]? = _;rw[Array.getElem?_push_lt h,bno h]
def bjv(k:Nat)(xs vs:List Value):List Value:=xs.take k++vs++xs.drop k
structure big (w w':World) (T s:Nat) (own v:Value) (n:Nat) (xs:List Value):Prop where
 row:w'.ownsRow 0 T s v (n+1) xs
 bl:Below 0 w w'
 out:∀g,g<w.heap.size->cg own≠some g->w'.heap[g]? = w.heap[g]?
 at_:∀g,cg v=some g->w.heap.size<=g\/cg own=some g
def bku(i:Nat)(F G:Nat->Nat->PV):Nat->Nat->PV:=fun k j=>if k<i then F k j else if k=i then G 0 j else F (k-1) j
def lq{id q:Nat}{x ob:aa}(h:lk [(q,x)] id=some ob):id=q/\ob=x:=by
 simp only[lk]at h;by_cases hk:q=id
 · subst hk
   simp at h;exact⟨rfl,h.symm⟩
 have:Nat.beq q id=false:=by
  rw[bmh];exact fun hb=>hk (bmt hb)
 rw[this]at h;cases h
structure bln (c:Ctx) (w w':World) (T s a:Nat) (v:Value) (n:Nat) (ys:List Value):Prop where
 row:w'.ownsRow 0 T s v (n+1) ys
 bl:Below 0 w w'
 out:∀g,g<w.heap.size->¬c.blk a g->w'.heap[g]? = w.heap[g]?
 at_:∀g,cg v=some g->w.heap.size<=g\/c.blk a g
def b05{P:Program}{f:FuncId}{T s a:Nat}{y:Value}{F:Nat->Nat->PV}(hs:0<s)
 (h:∀(w:World) (ad:Option Addr),Calls P f #[.slice ad 0 0,y] w fun e w'=>∃v,e=.returned v/\Below w.heap.size w w'/\(v=.slice ad 0 0\/w'.ownsRow 0 T s v 0 []/\∀g,cg v=some g->w.heap.size<=g)) :
 dg P f [.one (.p (l7 (.slice none 0 0))), .one (.p (.raw y))] [] (.v (.one (.ref a 0))) [(a, .arr true s T 0 F)] []:=by
 intro w c us hM hrep
 obtain ⟨ad,rfl⟩:∃ad,us=[.slice ad 0 0,y]:=by
  match us,hrep with
  | [u0,u1],⟨h0,h1,_⟩ =>
   obtain⟨ad,cap,hv,_,_,hc,_⟩:=h0;obtain rfl:cap=0:=hc rfl;exact⟨ad,by rw[hv,show u1=y from h1.1]⟩
 refine(h w ad).mono ?_;rintro e w' ⟨v,rfl,hb,hor⟩;have la:lk [(a,aa.arr true s T 0 F)] a=some (.arr true s T 0 F):=by simp[lk]
 have him:∀q ob,c.imm q=some ob->q<w.heap.size:=fun q ob hq=>(bm5.1 (hM.imm q ob hq)).1
 have hform:v.oneCell'=true:=by
  rcases hor with rfl|⟨hrow,_⟩
  · rfl
  rcases hrow.2 with⟨hv,_⟩|⟨g,cap,cur,hv,_⟩<;>(subst hv;rfl)
 have hbk:∃bk:Nat->Prop,(∀g,bk g->w.heap.size<=g)/\(bk=ep v/\w'.ownsRow 0 T s v 0 []\/bk=noB/\aq c.imm (.sl 0 s true F) v):=by
  rcases hor with rfl|⟨hrow,hat⟩
  · exact⟨noB,fun g hg=>hg.elim, .inr ⟨rfl,ad,0,rfl,bm1 _,bm3 _,fun _=>rfl,fun h=>absurd h (boj 0)⟩⟩
  exact⟨ep v,hat, .inl ⟨rfl,hrow⟩⟩
 obtain⟨bk,hat,hok⟩:=hbk;refine⟨v,{ c with own:=fun q=>if q=a then v else c.own q,blk:=fun q=>if q=a then bk else c.blk q },rfl,⟨hform,fun l hl=>(by cases(lq hl).2),fun ob s1 e1 n1 ho1 hd=>?_⟩,⟨fun id ob hl=>?_,fun id id' ob ob' q hl hl' _ _=>by rw[(lq hl).1,(lq hl').1],fun q ob hq=>(hb.block q (him q ob hq)).trans (hM.imm q ob hq),fun id ob q hl hq=>?_⟩,⟨hb.os,hb.tape,hb.output,hb.size,fun k hk=>absurd hk (bm6 k),hb.drawn⟩,fun q hq _=>⟨hb.block q hq,rfl⟩,fun id ob q hl hq=>?_,fun id hid=>absurd hid bpz⟩
 · obtain ⟨_,rfl⟩:=lq ho1
   simp only[aa.dim,bly,bm4]at hd;obtain⟨rfl,rfl,rfl⟩:=hd;exact⟨bm1 _,fun _=>by simp⟩
 · obtain ⟨rfl,rfl⟩:=lq hl
   rcases hok with⟨h1,h2⟩|⟨h1,h2⟩
   · exact⟨hs,bm3 _, .inl ⟨by simpa using h1,[],by simpa using h2,fun i j hi=>by omega⟩⟩
   exact⟨hs,bm3 _, .inr ⟨.inr rfl,by simpa using h1,by simpa using h2⟩⟩
 · obtain ⟨rfl,_⟩:=lq hl
   have hq':bk q:=by simpa using hq
   show c.imm q=none
   cases hc:c.imm q with
   |none=>rfl
   |some ob=>have:=him q ob hc;have:=hat q hq';omega
 obtain⟨rfl,_⟩:=lq hl;have hq':bk q:=by simpa using hq
 exact .inl (hat q hq')
def HE(nt:Nat)(st:HSt)(Q:HSt->Prop):Prop:=∀w0 m0 a w,Rel w0 m0 nt st.den a w->∃st':HSt,Q st'/\Rel w0 m0 nt st'.den a w
def gl{nt:Nat}{st:HSt}{Q:HSt->Prop}(h:Q st):HE nt st Q:=fun _ _ _ _ hr=>⟨st,h,hr⟩
def ahw {ro:Option Nat} {P:Program} {nt:Nat} {c:Code} {st:HSt} {Q:Exit->HSt->Prop} (h:HW (ro:=ro) P nt c st fun e s1=>HE nt s1 (Q e)):HW (ro:=ro) P nt c st Q:=fun w0 m0 a w hr=>by
 refine wpIn_mono (h w0 m0 a w hr) ?_;rintro e a' w' ⟨s1,h1,h2⟩;exact h1 w0 m0 a' w' h2
end
section
open Go.RowKit
abbrev AS:=BitVec 32
abbrev asI(s:AS):Int:=(s.toNat:Int)
def asC(s:AS):PV:=.raw (.int .u32 (asI s))
def aio{n:Int}(h0:0<=n)(h1:n<4294967296):IntKind.wrap .u32 n=n:=rp (by simp only[inR,l8,ml];omega)
def a6m (s:AS):asI s<4294967296:=by
 have:=s.isLt;unfold asI;omega
def qo(s:AS):0<=asI s:=bni _
def se (s:AS):BitVec.ofInt 32 (asI s)=s:=by
 unfold asI;rw[BitVec.ofInt_natCast,BitVec.ofNat_toNat,BitVec.setWidth_eq]
def d7 {a b:AS}:asI a=asI b<->a=b:=by
 unfold asI;rw[Int.ofNat_inj];exact BitVec.toNat_inj
def a93(s:AS):IntKind.wrap .u32 (s.toNat:Int)=asI s:=aio (qo s) (a6m s)
def yu (a b:AS):cu .and .u32 (asI a) (asI b)=asI (a&&&b):=by
 show IntKind.wrap .u32 ((BitVec.ofInt 32 (asI a)&&&BitVec.ofInt 32 (asI b)).toNat:Int)=_;rw[se,se,a93]
def bOr (a b:AS):cu .or .u32 (asI a) (asI b)=asI (a|||b):=by
 show IntKind.wrap .u32 ((BitVec.ofInt 32 (asI a)|||BitVec.ofInt 32 (asI b)).toNat:Int)=_;rw[se,se,a93]
def adx (a b:AS):cu .andNot .u32 (asI a) (asI b)=asI (a&&&~~~b):=by
 show IntKind.wrap .u32 ((BitVec.ofInt 32 (asI a)&&&~~~BitVec.ofInt 32 (asI b)).toNat:Int)=_;rw[se,se,a93]
def adj (a:AS) (n:Nat):(asI a).fdiv (2^(min n 32))=asI (a>>>n):=by
 have e:(2:Int)^(min n 32)=((2^(min n 32):Nat):Int):=by rw[Int.natCast_pow];rfl
 rw[e];unfold asI;rw[bop _ (bni _),<- bpu,boi,boc];by_cases h:n<=32
 · rw[bne h]
 rw[Nat.min_eq_right bpw];have h1:=a.isLt;have h2:2^32<=2^n:=bol bpw bpw;rw[Nat.div_eq_of_lt bpw,Nat.div_eq_of_lt (bp4 bpw h2)]
def a30 (a:AS) (n:Nat):IntKind.wrap .u32 (asI a*2^(min n 32))=asI (a<<<n):=by
 have e:asI a*(2:Int)^(min n 32)=((a.toNat*2^(min n 32):Nat):Int):=by rw[Int.natCast_mul,Int.natCast_pow];rfl
 rw[e]
 have hw:∀m:Nat,IntKind.wrap .u32 (m:Int)=((m%4294967296:Nat):Int):=by
  intro m;simp[IntKind.wrap,IntKind.signed,IntKind.bits]
 rw[hw];unfold asI;rw[BitVec.toNat_shiftLeft,Nat.shiftLeft_eq];by_cases h:n<=32
 · rw[bne h]
 rw[Nat.min_eq_right bpw];have h1:a.toNat*2^32%2^32=0:=Nat.mul_mod_left _ _
 have h2:a.toNat*2^n%2^32=0:=by
  obtain⟨k,rfl⟩:∃k,n=k+32:=⟨n-32,by omega⟩;rw[Nat.pow_add,<- Nat.mul_assoc];exact Nat.mul_mod_left _ _
 have h1:a.toNat*2^32%4294967296=0:=h1;rw[h1,h2]
end
section
structure Fd where
 lhs:AS
 rhs:AS
instance:Inhabited Fd:=⟨⟨0,0⟩⟩
theorem Fd.eq_iff{a b:Fd}:a=b<->a.lhs=b.lhs/\a.rhs=b.rhs:=by cases a;cases b;simp
instance:DecidableEq Fd:=fun a b=>decidable_of_iff _ (Fd.eq_iff (a:=a) (b:=b)).symm
def Fd.c (x:Fd):Nat->PV
 |0=>asC x.lhs
 |1=>asC x.rhs
 |_=>.any
def sub(a b:AS):Prop:=a&&&~~~b=0
instance:DecidablePred fun p:AS×AS=>sub p.1 p.2:=fun p=>inferInstanceAs (Decidable (_=_))
instance {a b:AS}:Decidable (sub a b):=inferInstanceAs (Decidable (_=_))
section
variable {a b:AS}
def fq:sub a b<->∀i,i<32->a.getLsbD i=true->b.getLsbD i=true:=by
 unfold sub;constructor
 · intro h i hi ha
   have:=congrArg (fun x:AS=>x.getLsbD i) h;simp only[bmy,bnx,hi,ha,decide_true,bok]at this;simpa using this
 intro h;apply bnj;intro i hi;have:=h i hi;simp only[bmy,bnx,hi,decide_true,bok];cases ha:a.getLsbD i<;>cases hb:b.getLsbD i<;>simp_all
def p9(a:AS):sub a a:=fq.2 fun _ _ h=>h
def w9{c:AS}(h:sub a b)(k:sub b c):sub a c:=fq.2 fun i hi ha=>fq.1 k i hi (fq.1 h i hi ha)
def aaq:sub a (a|||b):=fq.2 fun i hi ha=>by simp[ha]
def aac:sub b (a|||b):=fq.2 fun i hi ha=>by simp[ha]
def acr {c:AS} (h:sub a c) (k:sub b c):sub (a|||b) c:=fq.2 fun i hi ha=>by
 rw[bpb,bnf]at ha
 rcases ha with ha|ha
 · exact fq.1 h i hi ha
 exact fq.1 k i hi ha
def pg (h:sub a b) (k:sub b a):a=b:=by
 apply bnj;intro i hi;have h1:=fq.1 h i hi;have h2:=fq.1 k i hi;cases ha:a.getLsbD i<;>cases hb:b.getLsbD i<;>simp_all
def b82 (h:sub a b):a.toNat<=b.toNat:=by
 have e:a|||b=b:=pg (acr h (p9 b)) aac
 have:a.toNat<=(a|||b).toNat:=by rw[BitVec.toNat_or];exact Nat.left_le_or
 rwa [e]at this
def a19 (h:sub a b) (hne:a≠b):a.toNat<b.toNat:=by
 rcases Nat.lt_or_eq_of_le (b82 h)with h|h
 · exact h
 exact absurd (bn3 h) hne
def gj(s:AS)(f:Fd):AS:=if sub f.lhs s then s|||f.rhs else s
def ew(l:List Fd)(s:AS):AS:=l.foldl gj s
variable {s:AS}
def ac7 {f:Fd}:sub s (gj s f):=by
 unfold gj;split
 · exact aaq
 exact p9 s
def pl:∀{l:List Fd} {s:AS},sub s (ew l s)
 | [],s=>p9 s
 |f::l,s=>w9 ac7 (pl (l:=l) (s:=gj s f))
def clF (l:List Fd):Nat->AS->AS
 |0,s=>s
 |n+1,s=>if ew l s=s then s else clF l n (ew l s)
def clo(l:List Fd)(s:AS):AS:=clF l 4294967296 s
variable {l:List Fd}
def air:∀{n m:Nat} {s:AS},4294967296-s.toNat<=n->4294967296-s.toNat<=m->clF l n s=clF l m s
 |0,m,s,hn,hm=>by have:=s.isLt;omega
 |n+1,0,s,hn,hm=>by have:=s.isLt;omega
 | n+1,m+1,s,hn,hm=>by
  unfold clF;split
  · rfl
  rename_i hne;have:=a19 (pl (l:=l) (s:=s)) (fun e=>hne e.symm);exact air bpw bpw
def b4g (h:ew l s=s):clo l s=s:=by
 show clF l (4294967295+1) s=s;unfold clF;rw[if_pos h]
def awi:clo l (ew l s)=clo l s:=by
 by_cases h:ew l s=s
 · rw[h]
 have e:clo l s=clF l 4294967295 (ew l s):=by
  show clF l (4294967295+1) s=_;rw[clF,if_neg h]
 rw[e];have:=a19 (pl (l:=l) (s:=s)) (fun e=>h e.symm);exact air bpw bpw
def aaz:∀{n:Nat} {s:AS},4294967296-s.toNat<=n->ew l (clF l n s)=clF l n s
 |0,s,hn=>by have:=s.isLt;omega
 | n+1,s,hn=>by
  unfold clF;split
  · assumption
  rename_i hne;have:=a19 (pl (l:=l) (s:=s)) (fun e=>hne e.symm);exact aaz bpw
def aqa:ew l (clo l s)=clo l s:=aaz bpw
def ave:∀{n:Nat} {s:AS},sub s (clF l n s)
 |0,s=>p9 s
 | n+1,s=>by
  unfold clF;split
  · exact p9 s
  exact w9 pl ave
def akl:sub s (clo l s):=ave
def sv(l:List Fd)(s:AS):Prop:=∀f∈l,sub f.lhs s->sub f.rhs s
def wv:∀{l:List Fd} {s:AS},ew l s=s<->sv l s
 | [],s=>⟨fun _ f hf=>(by cases hf),fun _=>rfl⟩
 | f :: l,s=>by
  constructor
  · intro h
    have h1:gj s f=s:=pg (by have:=pl (l:=l) (s:=gj s f);rw[show ew l (gj s f)=s from h]at this;exact this) ac7
    have h2:ew l s=s:=by
     have:ew l (gj s f)=s:=h;rwa [h1]at this
    intro g hg
    rcases bm9.1 hg with rfl|hg
    · intro hl
      rw[gj,if_pos hl]at h1;rw[<- h1];exact aac
    exact wv.1 h2 g hg
  intro h
  have h1:gj s f=s:=by
   unfold gj;split
   · rename_i hl
     exact pg (acr (p9 s) (h f (bmp ..) hl)) aaq
   rfl
  show ew l (gj s f)=s;rw[h1];exact wv.2 fun g hg=>h g (bmr _ hg)
def ab7:∀{l:List Fd} {s t:AS},sv l t->sub s t->sub (ew l s) t
 | [],s,t,_,h=>h
 | f :: l,s,t,ht,h=>ab7 (l:=l) (fun g hg=>ht g (bmr _ hg)) (by
  unfold gj;split
  · rename_i hl
    exact acr h (ht f (bmp ..) (w9 hl h))
  exact h)
def anr {t:AS} (ht:sv l t):∀{n:Nat} {s:AS},sub s t->sub (clF l n s) t
 |0,s,h=>h
 | n+1,s,h=>by
  unfold clF;split
  · exact h
  exact anr ht (ab7 ht h)
def a4d{t:AS}(ht:sv l t)(h:sub s t):sub (clo l s) t:=anr ht h
def a6i:sv l (clo l s):=wv.1 aqa
end
end
section
abbrev pI(a:Int):PC:=.one (.raw (.int .i64 a))
abbrev pB(b:Bool):PC:=.one (.raw (.bool b))
abbrev pP(x:PV):PC:=.one x
abbrev pA(s:AS):PC:=.one (.raw (.int .u32 (asI s)))
abbrev fdl(l:List Fd):PV:=psl 2 Fd.c l
abbrev asl(l:List AS):PV:=psl 1 (fun s _=>asC s) l
abbrev vI(a:Int):HR:=br (.raw (.int .i64 a))
abbrev vA(s:AS):HR:=br (.raw (.int .u32 (asI s)))
def ava {l:List Fd} {s:AS} {i:Nat} (hi:i<l.length):ew (l.take (i+1)) s=gj (ew (l.take i) s) (l.getD i default):=by
 unfold ew;rw[List.take_succ,blz hi,bmo,bm7,blz hi];rfl
def gv {a b:AS}:cu .andNot .u32 (asI a) (asI b)=0<->sub a b:=by
 rw[adx,show(0:Int)=asI 0 from rfl,d7];exact Iff.rfl
def bb6 {S:AS} {f:Fd} (h:cu .andNot .u32 (asI f.lhs) (asI S)=0):cu .or .u32 (asI S) (asI f.rhs)=asI (gj S f):=by
 rw[bOr,gj,if_pos (gv.1 h)]
def b91{S:AS}{f:Fd}(h:¬cu .andNot .u32 (asI f.lhs) (asI S)=0):gj S f=S:=if_neg fun e=>h (gv.2 e)
def inU(n:Int)(f:Fd):Bool:=decide ((f.lhs|||f.rhs)>>>n.toNat=0)
def cn(n:Int)(l:List Fd):Int:=if n<0\/16<n then 7 else if 64<l.length then 3 else if l.all (inU n)=true then 0 else 1
def apd {n:Int} {f:Fd}:(cu .or .u32 (asI f.lhs) (asI f.rhs)).fdiv (2^(min n.toNat 32))=0<->inU n f=true:=by
 rw[bOr,adj,show(0:Int)=asI 0 from rfl,d7];unfold inU;rw[decide_eq_true_iff]
def nq {k:IntKind} {a b:Int} (h:a=b):CoR (br (.raw (.int k a))) (br (.raw (.int k b))):=by
 rw[h];exact CoR.refl _
def tj(n:Nat):AS:=(List.range n).foldl (fun s i=>s|||((1:AS)<<<i)) 0
def ah(n:Int):AS:=tj (min n.toNat 32)
def ark (i:Nat):tj (i+1)=tj i|||((1:AS)<<<i):=by
 unfold tj;rw[bmk,bmo];rfl
end
section
abbrev pU8(a:Int):PC:=.one (.raw (.int .u8 a))
abbrev pS(s:ByteArray):PC:=.one (.raw (.string s))
abbrev vU8(a:Int):HR:=br (.raw (.int .u8 a))
abbrev vB(b:Bool):HR:=br (.raw (.bool b))
abbrev vS(s:ByteArray):HR:=br (.raw (.string s))
abbrev vP(x:PV):HR:=br x
abbrev Lim:Nat:=68719476736
structure Val where
 kind:Int
 num:Int
 str:ByteArray
instance:Inhabited Val:=⟨⟨0,0,⟨#[]⟩⟩⟩
theorem Val.eq_iff{a b:Val}:a=b<->a.kind=b.kind/\a.num=b.num/\a.str=b.str:=by cases a;cases b;simp
instance:DecidableEq Val:=fun a b=>decidable_of_iff _ (Val.eq_iff (a:=a) (b:=b)).symm
def Val.c (v:Val):Nat->PV
 |0=>.raw (.int .i64 v.kind)
 |1=>.raw (.int .i64 v.num)
 |2=>.raw (.string v.str)
 |_=>.any
abbrev vals(l:List Val):PV:=psl 3 Val.c l
abbrev Val.pc(v:Val):PC:=.agg [v.c 0,v.c 1,v.c 2]
structure Row where
 id:Int
 vals:List Val
instance:Inhabited Row:=⟨⟨0,[]⟩⟩
theorem Row.eq_iff{a b:Row}:a=b<->a.id=b.id/\a.vals=b.vals:=by cases a;cases b;simp
instance:DecidableEq Row:=fun a b=>decidable_of_iff _ (Row.eq_iff (a:=a) (b:=b)).symm
def Row.c (r:Row):Nat->PV
 |0=>.raw (.int .i64 r.id)
 |1=>Hx.vals r.vals
 |_=>.any
abbrev rows(l:List Row):PV:=psl 2 Row.c l
abbrev Row.pc(r:Row):PC:=.agg [r.c 0,r.c 1]
def ar8 (s:ByteArray):Nat->PV
 |0=>.raw (.string s)
 |_=>.any
instance:Inhabited ByteArray:=⟨⟨#[]⟩⟩
abbrev aan(l:List ByteArray):PV:=psl 1 ar8 l
def bau (s:UInt8):Nat->PV
 |0=>.raw (.int .u8 (s.toNat:Int))
 |_=>.any
abbrev u8s(l:List UInt8):PV:=psl 1 bau l
def ayv (l:List UInt8):Nat->PV
 |0=>u8s l
 |_=>.any
abbrev bgb(l:List (List UInt8)):PV:=psl 1 ayv l
structure Tbl where
 name:ByteArray
 attrs:List ByteArray
 rows:List Row
instance:Inhabited Tbl:=⟨⟨⟨#[]⟩,[],[]⟩⟩
theorem Tbl.eq_iff{a b:Tbl}:a=b<->a.name=b.name/\a.attrs=b.attrs/\a.rows=b.rows:=by cases a;cases b;simp
instance:DecidableEq Tbl:=fun a b=>decidable_of_iff _ (Tbl.eq_iff (a:=a) (b:=b)).symm
def Tbl.c (t:Tbl):Nat->PV
 |0=>.raw (.string t.name)
 |1=>aan t.attrs
 |2=>Hx.rows t.rows
 |_=>.any
abbrev bia(l:List Tbl):PV:=psl 3 Tbl.c l
abbrev Tbl.pc(t:Tbl):PC:=.agg [t.c 0,t.c 1,t.c 2]
abbrev DB:=List Tbl
abbrev bkq(d:DB):PC:=.agg [bia d]
structure Chg where
 kind:Int
 name:ByteArray
 table:Tbl
 row:Row
 attr:Int
 value:Val
instance:Inhabited Chg:=⟨⟨0,⟨#[]⟩,default,default,0,default⟩⟩
theorem Chg.eq_iff{a b:Chg}:a=b<->a.kind=b.kind/\a.name=b.name/\a.table=b.table/\a.row=b.row/\a.attr=b.attr/\a.value=b.value:=by cases a;cases b;simp
instance:DecidableEq Chg:=fun a b=>decidable_of_iff _ (Chg.eq_iff (a:=a) (b:=b)).symm
def Chg.c (x:Chg):Nat->PV
 |0=>.raw (.int .i64 x.kind)
 |1=>.raw (.string x.name)
 |2=>x.table.c 0
 |3=>x.table.c 1
 |4=>x.table.c 2
 |5=>x.row.c 0
 |6=>x.row.c 1
 |7=>.raw (.int .i64 x.attr)
 |8=>x.value.c 0
 |9=>x.value.c 1
 |10=>x.value.c 2
 |_=>.any
abbrev bag(l:List Chg):PV:=psl 11 Chg.c l
abbrev Chg.pc(x:Chg):PC:=.agg [x.c 0,x.c 1,x.c 2,x.c 3,x.c 4,x.c 5,x.c 6,x.c 7,x.c 8,x.c 9,x.c 10]
def txC (l:List Chg):Nat->PV
 |0=>bag l
 |_=>.any
abbrev txs(l:List (List Chg)):PV:=psl 1 txC l
structure jw where
 attrs:UInt8
 gap:UInt8
 rows:List (List UInt8)
instance:Inhabited jw:=⟨⟨0,0,[]⟩⟩
def jw.c (x:jw):Nat->PV
 |0=>.raw (.int .u8 (x.attrs.toNat:Int))
 |1=>.raw (.int .u8 (x.gap.toNat:Int))
 |2=>bgb x.rows
 |_=>.any
abbrev jw.pc(x:jw):PC:=.agg [x.c 0,x.c 1,x.c 2]
structure Opn where
 kind:UInt8
 name:UInt8
 t:jw
 id:Int
 vals:List UInt8
 attr:Int
 value:UInt8
instance:Inhabited Opn:=⟨⟨0,0,default,0,[],0,0⟩⟩
def Opn.c (x:Opn):Nat->PV
 |0=>.raw (.int .u8 (x.kind.toNat:Int))
 |1=>.raw (.int .u8 (x.name.toNat:Int))
 |2=>x.t.c 0
 |3=>x.t.c 1
 |4=>x.t.c 2
 |5=>.raw (.int .i64 x.id)
 |6=>u8s x.vals
 |7=>.raw (.int .i64 x.attr)
 |8=>.raw (.int .u8 (x.value.toNat:Int))
 |_=>.any
abbrev Opn.pc(x:Opn):PC:=.agg [x.c 0,x.c 1,x.c 2,x.c 3,x.c 4,x.c 5,x.c 6,x.c 7,x.c 8]
abbrev bkt(l:List Opn):PV:=psl 9 Opn.c l
structure Stt where
 done:List (List Chg)
 undone:List (List Chg)
 opn:Bool
 now:List Chg
instance:Inhabited Stt:=⟨⟨[],[],false,[]⟩⟩
def Stt.c (x:Stt):Nat->PV
 |0=>txs x.done
 |1=>txs x.undone
 |2=>.raw (.bool x.opn)
 |3=>bag x.now
 |_=>.any
abbrev Stt.pc(x:Stt):PC:=.agg [x.c 0,x.c 1,x.c 2,x.c 3]
def al{α:Type}[Inhabited α](l:List α)(i:Nat)(h:i<l.length):l.getD i default=l[i]:=by simp[List.getD,blz h]
end
section
open Go.Proofs
def an6:a6 bqh 128:=wgx Tryz.func128
def bpx{p:Prop}(h:p:=by assumption):p:=h
def at5(l:List Fd)(s0:AS):a7 bqh 128 [pP (fdl l),pA s0] (af [pA (clo l s0)]):=by
 refine hpx (nt:=29) Tryz.func128 ?_;refine eq ?_;refine fp 0 rfl fun hlen=>?_;refine w_4 ?_;refine ar (ι:=AS) (ka 0 kn) km (fun s=>⟨[(1,some (vA s))],[]⟩) (fun s=>clo l s=clo l s0) (fun s=>4294967296-s.toNat) (s0) (rfl) kk ?_;rintro s hs;refine nc ?_;refine c7 (ka 0 (ka 5 (ka 9 (ka 10 kn)))) km (fun i=>⟨[(11,some (vI i)),(1,some (vA (ew (l.take i) s)))],[]⟩) l.length kk ?_;rintro i hi;refine w_5 ?_;refine hcd ?_ ?_<;>intro h0
 ·
  refine w_7 ?_;refine m9 0 ?_;refine eu ?_;refine hcd ?_ ?_<;>intro h1
  · refine jb ?_;exact lpx (i+1) ⟨⟨zy,⟨_,rfl,(by rw[ava bpw];first|(rw[b91 bpx];exact CoR.refl _)|(simp only[bmc];rw[bb6 bpx];exact CoR.refl _))⟩,tt⟩,trivial⟩
  refine w_5 ?_;exact lpx (i+1) ⟨⟨zy,⟨_,rfl,(by rw[ava bpw];first|(rw[b91 bpx];exact CoR.refl _)|(simp only[bmc];rw[bb6 bpx];exact CoR.refl _))⟩,tt⟩,trivial⟩
 obtain rfl:i=l.length:=by omega
 refine w_7 ?_;refine hcd ?_ ?_<;>intro h2
 ·
  refine w_5 ?_;refine hrr ?_
  have e2:ew l s=s:=by
   have:=d7.1 bpx;rwa [bmd]at this
  exact f9 rfl rfl (⟨cci (by rw[bmd,e2,<- hs,b4g e2]),trivial⟩)
 refine ej ?_;refine⟨ew l s, ?_, ?_, ?_⟩
 · show clo l (ew l s)=clo l s0
   rw[awi];exact hs
 · have hne:¬ew l s=s:=fun e=>absurd (congrArg asI e) (by rw[bmd]at *;assumption)
   have:=a19 (pl (l:=l) (s:=s)) (fun e=>hne e.symm);have:=(ew l s).isLt;show 4294967296-(ew l s).toNat<4294967296-s.toNat;omega
 exact⟨⟨⟨_,rfl,(by rw[bmd];exact CoR.refl _)⟩,tt⟩,trivial⟩
def a1m:a6 bqh 127:=wgx Tryz.func127
def ac8 (n:Int) (l:List Fd):a7 bqh 127 [pI n,pP (fdl l)] (af [pI (cn n l)]):=by
 refine hpx (nt:=31) Tryz.func127 ?_;refine eq ?_;refine fp 1 rfl fun hlen=>?_;refine w_9 ?_;refine am rfl rfl ?_ ?_<;>intro r0
 ·
  have h0:=tz1 r0;(iterate 2 refine k9 (gtf r0) ?_);refine w_7 ?_
  exact hx8 rfl rfl rfl (⟨cci (by rw[cn,if_pos bpw]),trivial⟩)
 have h0:=tz2 r0;(iterate 2 refine qy ?_ (hg:=(gff r0)));refine w_2 ?_;refine aw _ rfl ?_ ?_<;>intro r1
 · have h1:=tz1 (ca r0 r1);refine v_4 ?_;exact⟨cci (by rw[cn,if_pos bpw]),trivial⟩
 have h1:=tz2 (ca r0 r1);refine w_8 ?_;refine hcd ?_ ?_<;>intro h2
 · refine v_4 ?_;exact⟨cci (by rw[cn,if_neg bpw,if_pos bpw]),trivial⟩
 refine w_9 ?_;refine ar (ι:=Nat) (ka 0 (ka 16 (ka 17 kn))) km (fun i=>⟨[(18,some (vI i))],[]⟩) (fun i=>i<=l.length/\∀j,j<i->inU n (l.getD j default)=true) (fun i=>l.length-i) (0) (⟨bm3 _,fun j hj=>absurd hj (bm6 j)⟩) kk ?_;rintro i ⟨hi,hI⟩;refine w_5 ?_;refine hcd ?_ ?_<;>intro h3
 ·
  refine w_7 ?_;refine m9 0 ?_;refine l5 ?_;refine hcn ?_ ?_<;>intro h4
  · refine v_4 ?_;exact⟨cci (by rw[cn,if_neg bpw,if_neg bpw,if_neg (fun e=>absurd (bg1 (l:=l) (p:=inU n) (i:=i) bpw (by rw[bmh];exact fun e=>absurd (apd.2 e) bpx)) (by rw[e];decide))]),trivial⟩
  refine w_5 ?_;refine lpz (i+1) kk ?_;refine⟨by omega,fun j hj=>?_⟩
  rcases Nat.lt_or_eq_of_le (Nat.le_of_lt_succ hj)with h|h
  · exact hI j h
  subst h;exact apd.1 bpx
 obtain rfl:i=l.length:=by omega
 refine v_5 ?_;exact⟨cci (by rw[cn,if_neg bpw,if_neg bpw,if_pos (bda fun j hj=>hI j hj)]),trivial⟩
end
section
def o5 (i k:Nat) (hk:k<32):((1:AS)<<<i).getLsbD k=decide (k=i):=by
 rw[BitVec.getLsbD_shiftLeft];by_cases h:k<i
 · simp[h,hk];omega
 by_cases e:k=i
 · subst e;simp[hk]
 have:0<k-i:=by omega
 simp[hk,h,e,BitVec.getLsbD_one];omega
def sg:∀(n k:Nat),k<32->(tj n).getLsbD k=decide (k<n)
 |0,k,hk=>by simp[tj]
 | n+1,k,hk=>by
  rw[ark,bpb,sg n k hk,o5 n k hk];by_cases h:k<n
  · simp[h];omega
  by_cases e:k=n
  · simp[e]
  simp[h,e];omega
def ayf{s:AS}{n:Nat}:s>>>n=0<->∀k,k<32->n<=k->s.getLsbD k=false:=by
 constructor
 · intro h k hk hn
   have:=congrArg (fun x:AS=>x.getLsbD (k-n)) h;simp only[BitVec.getLsbD_ushiftRight]at this;rw[show n+(k-n)=k by omega]at this;simpa using this
 intro h;apply bnj;intro i hi;rw[BitVec.getLsbD_ushiftRight];by_cases hk:n+i<32
 · rw[h (n+i) hk bpw];simp
 rw[bpf _ _ bpw];simp
def a3y{s:AS}{n:Nat}(hn:n<=32):sub s (tj n)<->s>>>n=0:=by
 rw[fq,ayf];constructor
 · intro h k hk hle
   rw[bmh];intro e;have:=h k hk e;rw[sg n k hk,decide_eq_true_iff]at this;omega
 intro h k hk e;rw[sg n k hk,decide_eq_true_iff];apply bpl;intro hle;rw[h k hk hle]at e;cases e
def apb {n:Int} (hn:0<=n) (h16:n<=16) {f:Fd}:inU n f=true<->sub f.lhs (ah n)/\sub f.rhs (ah n):=by
 unfold inU ah;rw[decide_eq_true_iff,bne bpw,<- a3y bpw];exact⟨fun h=>⟨w9 aaq h,w9 aac h⟩,fun h=>acr h.1 h.2⟩
abbrev Fd.pc(f:Fd):PC:=.agg [f.c 0,f.c 1]
def imp(l:List Fd)(f:Fd):Bool:=decide (sub f.rhs (clo l f.lhs))
end
section
open Go.Proofs
def apg:a6 bqh 252:=wgx Tryz.func252
def b8e (l:List Fd) (x:Fd):a7 bqh 252 [pP (fdl l),x.pc] (af [pB (imp l x)]):=by
 refine hpx (nt:=13) Tryz.func252 ?_;refine sx7 ?_;refine m9 0 ?_;refine w_9 ?_;refine qcx an6 (at5 l x.lhs) ?_;refine v_5 ?_;exact⟨ccb (decide_eq_decide.2 gv),trivial⟩
end
section
variable {α:Type}
def ax [Inhabited α] {l:List α} {q:Nat} (hq:q<l.length):l.take (q+1)=l.take q++[l.getD q default]:=by
 rw[bow,blz hq];simp[List.getD,hq]
def atc [Inhabited α] {l:List α} {q:Nat} (h0:0<q) (hq:q<=l.length):(l.take q).getLast? = some (l.getD (q-1) default):=by
 obtain⟨k,rfl⟩:∃k,q=k+1:=⟨q-1,by omega⟩;rw[ax bpw,List.getLast?_append];simp
section
variable [DecidableEq α]
def o7:Option α->List α->List α
 |_,[]=>[]
 |p,x::l=>if p=some x then o7 p l else x::o7 (some x) l
def jg(l:List α):List α:=o7 none l
def a29(p:Option α)(l:List α):Option α:=match l.getLast? with|some y=>some y|none=>p
def aml (p:Option α) (y:α) (l:List α):a29 p (y::l)=a29 (some y) l:=by
 unfold a29
 cases l with
 |nil=>rfl
 |cons z l=>simp[List.getLast?_cons]
def a54(x:α):∀(l:List α) (p:Option α),o7 p (l++[x])=o7 p l++(if a29 p l=some x then[] else[x])
 | [],p=>by
  unfold a29;simp only[List.nil_append,o7,List.getLast?_nil];by_cases h:p=some x<;>simp[h]
 | y :: l,p=>by
  rw[aml];simp only[bog,o7];split
  · rename_i h
    rw[a54 x l p,h]
  rw[a54 x l (some y)];rfl
def jp [Inhabited α] {l:List α} {q:Nat} (h0:0<q) (hq:q<l.length):jg (l.take (q+1))=jg (l.take q)++(if l.getD (q-1) default=l.getD q default then[] else[l.getD q default]):=by
 unfold jg;rw[ax hq,a54];unfold a29;rw[atc h0 bpw];simp
def uz [Inhabited α] {l:List α}:∀{k:Nat},k<=l.length->(∀j,0<j->j<k->¬l.getD j default=l.getD (j-1) default)->jg (l.take k)=l.take k
 |0,_,_=>rfl
 | 1,hk,_=>by
  rw[ax bpw];simp[jg,o7]
 | k+2,hk,h=>by
  rw[jp bpw bpw,uz bpw (fun j h1 h2=>h j h1 bpw),if_neg (fun e=>h (k+1) bpw bpw e.symm),<- ax bpw]
def a94:∀(l:List α) (p:Option α),∀x∈o7 p l,x∈l
 | [],_,x,h=>by simp[o7]at h
 | y::l,p,x,h=>by
  simp only[o7]at h;split at h
  · exact bmr _ (a94 l p x h)
  rcases bm9.1 h with rfl|h
  · exact bmp
  exact bmr _ (a94 l _ x h)
def a9c:∀(l:List α) (p:Option α),∀x∈l,p=some x\/x∈o7 p l
 | y :: l,p,x,h=>by
  simp only[o7];split
  · rename_i hp
    rcases bm9.1 h with rfl|h
    · exact .inl hp
    exact a9c l p x h
  rcases bm9.1 h with rfl|h
  · exact .inr bmp
  rcases a9c l (some y) x h with h|h
  · simp only [bly]at h
    subst h;exact .inr bmp
  exact .inr (bmr _ h)
def ax7 {l:List α} {x:α}:x∈jg l<->x∈l:=⟨a94 l none x,fun h=>by
 rcases a9c l none x h with h|h
 · cases h
 exact h⟩
end
section
variable [Inhabited α]
section
variable {l:List α}
def md{p:Nat}{v:α}(hp:p<l.length):(l.set p v).getD p default=v:=by simp[List.getD,hp]
def getD_set_ne' {p j:Nat} {v:α} (h:j≠p):(l.set p v).getD j default=l.getD j default:=by
 simp only[List.getD,List.getElem?_set_ne (Ne.symm h)]
variable {c:α->Nat->PV}
def xu{wr wr':Bool}{n p k:Nat}{e:TypeId}{v:α}{x:PV}(hw:wr'=true->wr=true)(hn:n=l.length)(hp:k=p)(hk:p<l.length)(hx:x=c v 0):
 CoO (.arr wr 1 e n (kg (lf c l) k 0 [x])) (.arr wr' 1 e n (lf c (l.set p v))):=by
 subst hp hx hn;refine⟨hw,rfl,rfl,rfl,fun i j hi hj=>CoP.of_eq ?_⟩;obtain rfl:j=0:=by omega
 unfold kg lf;by_cases h:i=k
 · subst h
   rw[if_pos ⟨rfl,by omega,by simp⟩,md hk];rfl
 rw[if_neg bpw,getD_set_ne' h]
def sn {wr wr':Bool} {n p k q d:Nat} {e:TypeId} {l':List α} (hw:wr'=true->wr=true) (hn:n=l.length) (hp:k=p) (hk:p<l.length) (hd:d=q):
 CoO (.arr wr 1 e n (kg (lf c l) k 0 [lf c l' d 0])) (.arr wr' 1 e n (lf c (l.set p (l'.getD q default)))):=xu hw hn hp hk (by rw[hd];rfl)
def aec {n m a:Nat} {cl:Bool} {l':List α} {z:List Value} {p:Option Int} {h:Option Int} (hn:eo (c5 n h) p=l'.length) (hp:p=none) (ha:l'.length<=a) (hl:l'=l.take l'.length):
 CoP (.sl (eo (c5 n h) p) 1 cl (qr (ru (lf c l) a m z) p)) (psl 1 c l'):=by
 subst hp;refine CoP.sl hn.symm (.inl rfl) (fun h=>by cases h) fun i j hi hj=>CoP.of_eq ?_;rw[hn]at hi;show ru (lf c l) a m z i j=lf c l' i j;unfold ru;rw[if_neg bpw];simp only[lf,List.getD];have e:l'[i]? = l[i]?:=by rw[hl,bnb,if_pos hi]
 rw[e]
end
end
abbrev sC:AS->Nat->PV:=fun s _=>asC s
structure CpI (l:List AS) (k p q:Nat) (m:List AS):Prop where
 len:m.length=l.length
 kq:k<q
 pq:p<q
 ql:q<=l.length
 pre:m.take p=jg (l.take q)
 high:∀j,q-1<=j->m.getD j default=l.getD j default
section
variable {k:Nat}{l:List AS}
theorem CpI.start (h1:1<=k) (hk:k<l.length) (h:∀j,0<j->j<k->¬l.getD j default=l.getD (j-1) default) (hd:l.getD k default=l.getD (k-1) default):CpI l k k (k+1) l :=
 ⟨rfl,by omega,by omega,by omega,by rw[jp bpw hk,if_pos hd.symm,bmv,uz bpw h],fun _ _=>rfl⟩
theorem CpI.skip {p q:Nat} {m:List AS} (h:CpI l k p q m) (hq:q<l.length) (he:m.getD q default=m.getD (q-1) default):CpI l k p (q+1) m:=by
 have hk:=h.kq;refine⟨h.len,by omega,by have:=h.pq;omega,hq, ?_,fun j hj=>h.high j bpw⟩;rw[h.high q bpw,h.high (q-1) bpw]at he;rw[jp bpw hq,if_pos he.symm,bmv,h.pre]
theorem CpI.keep {p q:Nat} {m:List AS} (h:CpI l k p q m) (hq:q<l.length) (he:¬m.getD q default=m.getD (q-1) default):CpI l k (p+1) (q+1) (m.set p (m.getD q default)):=by
 have hk:=h.kq;have hp:=h.pq;have hl:=h.len;refine⟨by simp[hl],by omega,by omega,hq, ?_,fun j hj=>by rw[getD_set_ne' bpw];exact h.high j bpw⟩;have e:=h.high q bpw;rw[e,h.high (q-1) bpw]at he;rw[jp bpw hq,if_neg (fun e=>he e.symm),<- h.pre,ax (by simp[hl];omega),md bpw,e];congr 1;rw[List.take_set,bpm bqa]
def xm{a b a' b':Nat}(h:asI (l.getD a' default)=asI (l.getD b' default))(ha:a'=a)(hb:b'=b):l.getD a default=l.getD b default:=by subst ha hb;exact d7.1 h
def xr{a b a' b':Nat}(h:¬asI (l.getD a' default)=asI (l.getD b' default))(ha:a'=a)(hb:b'=b):¬l.getD a default=l.getD b default:=by subst ha hb;exact fun e=>h (congrArg asI e)
def aor (hk:l.length<=k) (h:∀j,0<j->j<k->¬l.getD j default=l.getD (j-1) default):CoP (.sl l.length 1 false (lf sC l)) (asl (jg l)):=by
 have:=uz (bm1 l.length) fun j h1 h2=>h j h1 bpw;rw[bmd]at this;rw[this];exact CoP.refl _
def b1z {m:List AS} {p q n a d:Nat} {cl:Bool} {z:List Value} (hC:CpI l k p q m) (hq:¬q<l.length) (ha:p<=a):CoP (.sl (eo (c5 n (some (p:Int))) none) 1 cl (qr (ru (lf sC m) a d z) none)) (asl (jg l)):=by
 have e:=hC.pre;have h1:=hC.ql;have h2:=hC.len;have h3:=hC.pq;rw[show q=l.length by omega,bmd]at e;have el:(jg l).length=p:=by rw[<- e];simp;omega
 exact aec (by rw[el];rfl) rfl bpw (by rw[el,e])
end
end
section
open Go.Proofs
def ap2:a6 bqh 177:=wgx Tryz.func177
section
variable {p:Prop}
def bpy(h:p:=by(repeat' apply And.intro)<;>first|trivial|exact bm0 rfl):p:=h
def bq0(h:p:=by first|rfl|(dsimp only;omega)):p:=h
def bq3(h:p:=by first|rfl|(dsimp only;omega)):p:=h
def bq7(h:p:=by simp only[c5]; omega):p:=h
def bq9(h:p:=by simp only[c5];omega):p:=h
def ayx(l:List AS):dg bqh 177 [.one (.ref 900 l.length)] [(900, .arr true 1 35 l.length (lf sC l))] (.v (.one (.p (asl (jg l))))) [] []:=by
 refine hfx (nt:=61) Tryz.func177 ?_;refine eq ?_;refine ah3 900 rfl fun hlen=>?_;refine eu ?_;refine hcd ?_ ?_<;>intro h0
 · refine w_5 ?_;refine be 2 rfl rfl rfl ?_;refine hrr ?_;exact⟨_,_,rfl,bpy,aor (k:=l.length) (bm1 _) (fun j h1 h2=>by omega),trivial⟩
 refine w_7 ?_;refine ar (ι:=Nat) (ka 0 kn) (kb 900 km) (fun k=>⟨[(3,some (vI k))],[]⟩) (fun k=>1<=k/\k<=l.length/\∀j,0<j->j<k->¬l.getD j default=l.getD (j-1) default) (fun k=>l.length-k) (1) (⟨bm1 _,by omega,fun j h1 h2=>by omega⟩) kk ?_;rintro k ⟨hk1,hk,hI⟩;refine w_8 ?_;refine hcd ?_ ?_<;>intro h1
 ·
  refine sb ?_;refine hcd ?_ ?_<;>intro h2
  ·
   refine l5 ?_;refine ar (ι:=Nat×Nat×List AS) (ka 0 (ka 4 kn)) km (fun x=>⟨[(3,some (vI x.1)),(5,some (vI ((x.2.1:Int)-k)))],[(900,some (.arr true 1 35 l.length (lf sC x.2.2)))]⟩) (fun x=>CpI l k x.1 x.2.1 x.2.2) (fun x=>l.length-x.2.1) ((k,k+1,l)) (CpI.start hk1 bpw hI (xm bpx rfl bpw)) ⟨⟨zy,⟨_,rfl,(coi bq0)⟩,trivial⟩,uu⟩ ?_;rintro⟨p,q,m⟩ hC;have hC0:=hC;obtain⟨hml,hkq,hpq,hql,_,_⟩:=hC0;dsimp only at hC hml hkq hpq hql;refine w_8 ?_;refine hcd ?_ ?_<;>intro h3
   ·
    simp only[eo,c5,bmc]at h3;refine sb ?_;refine hcn ?_ ?_<;>intro h4
    ·
     refine aqu ?_
     first | (refine lpz (p+1, q+1, m.set p (m.getD q default)) ⟨⟨⟨_, rfl, (coi bq3)⟩, ⟨_, rfl, (coi bq3)⟩, tt⟩, ⟨⟨_, rfl, (sn id hml.symm bpw (by dsimp only; omega) bq7)⟩, trivial⟩⟩ ?_; exact hC.keep bpw (xr bpx bq7 bq7))
           |(refine lpz (p,q+1,m) ⟨⟨⟨_,rfl,(coi bq0)⟩,⟨_,rfl,(coi bq0)⟩,tt⟩,uu⟩ ?_;exact hC.skip bpw (xm bpx bq9 bq9))
    refine w_6 ?_
    first | (refine lpz (p+1, q+1, m.set p (m.getD q default)) ⟨⟨⟨_, rfl, (coi bq3)⟩, ⟨_, rfl, (coi bq3)⟩, tt⟩, ⟨⟨_, rfl, (sn id hml.symm bpw (by dsimp only; omega) bq7)⟩, trivial⟩⟩ ?_; exact hC.keep bpw (xr bpx bq7 bq7))
          |(refine lpz (p,q+1,m) ⟨⟨⟨_,rfl,(coi bq0)⟩,⟨_,rfl,(coi bq0)⟩,tt⟩,uu⟩ ?_;exact hC.skip bpw (xm bpx bq9 bq9))
   simp only[eo,c5,bmc]at h3;refine w_6 ?_;refine rz9 0 true ?_;refine w_5 ?_;refine as6 rfl rfl rfl rfl rfl ?_;refine w_2 ?_;refine hrr ?_;exact⟨_,_,rfl,bpy,b1z hC bpw (by simp[c5]),trivial⟩
  refine w_6 ?_;refine lpz (k+1) kk ?_;refine⟨by omega,by show k+1<=_;omega,fun j h1 h2=>?_⟩
  rcases Nat.lt_or_eq_of_le (Nat.le_of_lt_succ h2)with h|h
  · exact hI j h1 h
  subst h;exact xr bpx rfl bpw
 refine w_6 ?_;refine be 2 rfl rfl rfl ?_;refine hrr ?_;exact⟨_,_,rfl,bpy,aor (k:=k) bpw hI,trivial⟩
end
end
end Go.Hx
