/- A part of the proof: HxEnv Hx19 Hx23 Cs1 Cs3 Ty1 V1 Cs4 Cl1 Cl2. -/
import Derived.Deep.AppendLies
import Derived.Laws.CopyRow
import Derived.Shelf.Spec.SlicesInsertGrow
import Derived.Test.YteklilhbjjofbaaGreatDoorProg
import Derived.Test.YteklilhbjjofbaaGreatDoorLe13
set_option linter.all false
set_option maxRecDepth 100000
set_option maxHeartbeats 1000000
section
namespace Go.Hx
open Go.Proofs
noncomputable abbrev b65:=Tryz.prog
def rj:List (Nat × Nat):=[(22,28),(31,5),(34,43),(35,45),(46,85),(60,9),(61,112),(91,97),(97,3),(110,114),(120,110),(121,127),(127,128)]
def yz:List (Nat × TI):=[(1,⟨.func,1,8,some [.nilFunc],false,false,true⟩),(2,⟨.int .i64,1,8,some [.int .i64 0],false,false,true⟩),(3,⟨.int .i64,1,8,some [.int .i64 0],false,false,true⟩),(4,⟨.bool,1,1,some [.bool false],false,false,true⟩),(5,⟨.int .u8,1,1,some [.int .u8 0],false,false,true⟩),(9,⟨.string,1,16,some [.string ⟨#[]⟩],false,false,true⟩),(21,⟨.int .i32,1,4,some [.int .i32 0],false,false,true⟩),(24,⟨.int .i64,1,8,some [.int .i64 0],false,false,true⟩),(27,⟨.int .u32,1,4,some [.int .u32 0],false,false,true⟩),(28,⟨.int .u32,1,4,some [.int .u32 0],false,false,true⟩),(42,⟨.struct [(0,28,false),(1,28,false)],2,8,some [.int .u32 0, .int .u32 0],false,false,false⟩),(43,⟨.struct [(0,28,false),(1,28,false)],2,8,some [.int .u32 0, .int .u32 0],false,false,false⟩),(45,⟨.struct [(0,28,false),(1,28,false)],2,8,some [.int .u32 0, .int .u32 0],false,false,false⟩),(62,⟨.struct [(0,9,false),(1,60,false),(2,61,false)],3,64,some [.string ⟨#[]⟩, .slice none 0 0, .slice none 0 0],false,false,false⟩),(63,⟨.struct [(0,9,false),(1,60,false),(2,61,false)],3,64,some [.string ⟨#[]⟩, .slice none 0 0, .slice none 0 0],false,false,false⟩),(84,⟨.struct [(0,4,false),(1,3,false),(2,3,false),(3,3,false)],4,32,some [.bool false, .int .i64 0, .int .i64 0, .int .i64 0],false,false,false⟩),(85,⟨.struct [(0,4,false),(1,3,false),(2,3,false),(3,3,false)],4,32,some [.bool false, .int .i64 0, .int .i64 0, .int .i64 0],false,false,false⟩),(88,⟨.func,1,8,some [.nilFunc],false,false,true⟩),(92,⟨.struct [(0,3,false),(1,91,false)],2,32,some [.int .i64 0, .slice none 0 0],false,false,false⟩),(93,⟨.struct [(0,3,false),(1,91,false)],2,32,some [.int .i64 0, .slice none 0 0],false,false,false⟩),(111,⟨.struct [(0,2,false),(1,110,false)],2,32,some [.int .i64 0, .slice none 0 0],false,false,false⟩),(112,⟨.struct [(0,2,false),(1,110,false)],2,32,some [.int .i64 0, .slice none 0 0],false,false,false⟩),(113,⟨.struct [(0,3,false),(1,2,false),(2,9,false)],3,32,some [.int .i64 0, .int .i64 0, .string ⟨#[]⟩],false,false,false⟩),(114,⟨.struct [(0,3,false),(1,2,false),(2,9,false)],3,32,some [.int .i64 0, .int .i64 0, .string ⟨#[]⟩],false,false,false⟩),(119,⟨.pointer 123,1,8,some [.pointer none],false,false,true⟩),(122,⟨.struct [(0,22,false),(1,120,false),(2,121,false),(3,120,false)],4,96,some [.slice none 0 0, .slice none 0 0, .slice none 0 0, .slice none 0 0],false,false,false⟩),(123,⟨.struct [(0,22,false),(1,120,false),(2,121,false),(3,120,false)],4,96,some [.slice none 0 0, .slice none 0 0, .slice none 0 0, .slice none 0 0],false,false,false⟩),(125,⟨.func,1,8,some [.nilFunc],false,false,true⟩),(128,⟨.map 9 4,1,8,some [.map none],false,false,true⟩),(148,⟨.func,1,8,some [.nilFunc],false,false,true⟩),(149,⟨.func,1,8,some [.nilFunc],false,false,true⟩),(159,⟨.int .u64,1,8,some [.int .u64 0],false,false,true⟩),(185,⟨.func,1,8,some [.nilFunc],false,false,true⟩),(190,⟨.func,1,8,some [.nilFunc],false,false,true⟩),(192,⟨.int .i64,1,8,some [.int .i64 0],false,false,true⟩),(201,⟨.int .u64,1,8,some [.int .u64 0],false,false,true⟩),(202,⟨.func,1,8,some [.nilFunc],false,false,true⟩),(213,⟨.int .u64,1,8,some [.int .u64 0],false,false,true⟩),(217,⟨.pointer 3,1,8,some [.pointer none],false,false,true⟩),(225,⟨.pointer 213,1,8,some [.pointer none],false,false,true⟩),(228,⟨.array 32 5,32,32,some [.int .u8 0, .int .u8 0, .int .u8 0, .int .u8 0, .int .u8 0, .int .u8 0, .int .u8 0, .int .u8 0, .int .u8 0, .int .u8 0, .int .u8 0, .int .u8 0, .int .u8 0, .int .u8 0, .int .u8 0, .int .u8 0, .int .u8 0, .int .u8 0, .int .u8 0, .int .u8 0, .int .u8 0, .int .u8 0, .int .u8 0, .int .u8 0, .int .u8 0, .int .u8 0, .int .u8 0, .int .u8 0, .int .u8 0, .int .u8 0, .int .u8 0, .int .u8 0],false,false,false⟩)]
def a79 {α:Type}:List (Nat × α) -> Nat -> Option α
 | [],_=>none
 | (a,x) :: r,n=>bif Nat.beq a n then some x else a79 r n
def o6:Env:=fun t=>match a79 rj t with | some e=>some ⟨.slice e,1,24,some [.slice none 0 0],false,false,true⟩ | none=>a79 yz t
def a34 {α:Type}:∀ {l:List (Nat × α)} {t:Nat} {i:α},a79 l t = some i -> (t,i) ∈ l
 | (a,x) :: r,t,i,h=>by
  simp only [a79] at h
  cases hb:Nat.beq a t with
  | true=>rw [hb] at h;cases h;rw [b34 hb];exact b3u
  | false=>rw [hb] at h;exact b38 _ (a34 h)
def amw:yz.map (fun p=>tw b65 p.1) = yz.map (fun p=>some p.2):=by kernel_rfl
def aig:rj.map (fun p=>tw b65 p.1) = rj.map (fun p=>some ⟨.slice p.2,1,24,some [.slice none 0 0],false,false,true⟩):=by kernel_rfl
def o9:bu b65 o6:=fun t i h=>by
 unfold o6 at h
 cases hs:a79 rj t with
 | some e=>rw [hs] at h;cases h;exact List.map_inj_left.1 aig (t,e) (a34 hs)
 | none=>rw [hs] at h;exact List.map_inj_left.1 amw (t,i) (a34 h)
def ai3:b65.follows .mixedOrders = true:=by kernel_rfl
end Go.Hx
namespace Go.Hx
open Go.Proofs
section
variable {ro:Option Nat} {P:Program} {E:Env} {nt:Nat} {ops:Array Oper} {i:Nat} {o:Oper} {st:HSt} {L:List Nat} {K:List Tr -> HSt -> Prop} {Q:Exit -> HSt -> Prop}
section
variable {gb:Bool}
def qy {out:Out} (hT:Reg P E nt ops L (st.after o.dst (some out.val) []) fun T sf=>K (⟨i,a2g true out.val.ids,looks st.den o,bg st.den o.dst [],dp E st.den o⟩ :: T) sf) (hi:ops[i]? = some o:=by exact rfl) (hw:al ops st.den o = some gb:=by exact rfl) (hd:c4 nt o.dst = true:=by exact rfl) (hq':hq E true st.den.o (ev st.den) o.op = some out:=by exact rfl) (hg:gb = true:=by exact rfl) (hp:out.pre:=by first | exact trivial | (simp only [fw,inR,uw,a07];omega) | exact a9b _ _ | exact ⟨trivial,trivial⟩ | exact ⟨trivial,b2k rfl⟩ | (try dsimp only) <;> ((repeat' apply And.intro) <;> first | trivial | rfl | omega | (simp only [fu,bo];omega) | assumption | exact b2k rfl)):
 Reg P E nt ops (i :: L) st K:=bi true hi hw hd hq' hg hp hT
def k9 (hg:gb = false) (hT:Reg P E nt ops L (st.after o.dst (some (.tup [])) []) fun T sf=>K (⟨i,a2g true [],looks st.den o,bg st.den o.dst [],none⟩ :: T) sf) (hi:ops[i]? = some o:=by exact rfl) (hw:al ops st.den o = some gb:=by exact rfl) (hd:c4 nt o.dst = true:=by exact rfl):Reg P E nt ops (i :: L) st K:=aew hi hw hd hg hT
def m9 (id:Nat) {nw:New} (hT:Reg P E nt ops L (st.after o.dst (some nw.val) [(id,some nw.ob)]) fun T sf=>K (⟨i,⟨id,false,true, .tup [],[id],[id],nw.val.ids ++ nw.ob.ids⟩,looks st.den o,bg st.den o.dst [(id,some nw.ob)],none⟩ :: T) sf) (hi:ops[i]? = some o:=by exact rfl) (hw:al ops st.den o = some gb:=by exact rfl) (hd:c4 nt o.dst = true:=by exact rfl) (hq':ha E (ev st.den) id o.op = some nw:=by exact rfl) (hn:o7 id st = true:=by exact rfl) (hg:gb = true:=by exact rfl) (hp:nw.pre:=by first | exact trivial | (try dsimp only) <;> ((repeat' apply And.intro) <;> first | trivial | rfl | omega | assumption)):Reg P E nt ops (i :: L) st K:=sc id hi hw hd hq' hn hg hp hT
def s9 {u:Upd} (hT:Reg P E nt ops L (st.after o.dst none [(u.id,some u.ob)]) fun T sf=>K (⟨i,⟨0,false,true, .tup [],[u.id],[],u.ob.ids⟩,looks st.den o,bg st.den o.dst [(u.id,some u.ob)],dp E st.den o⟩ :: T) sf) (hi:ops[i]? = some o:=by exact rfl) (hw:al ops st.den o = some gb:=by exact rfl) (hd:c4 nt o.dst = true:=by exact rfl) (hq':hs E st.den.o (ev st.den) o.op = some u:=by exact rfl) (hg:gb = true:=by exact rfl) (hp:u.pre:=by first | exact b2k rfl | (try dsimp only) <;> ((repeat' apply And.intro) <;> first | trivial | rfl | omega | (simp only [fu,bo];omega) | assumption | exact b2k rfl)):Reg P E nt ops (i :: L) st K:=a95 hi hw hd hq' hg hp hT
variable {p:Prop}
def f9 {rs:List ResultVar} {res:List PC} {q:Prop} {l:List HC} {vs:List PC} (h1:u0 E st.den rs = some (p,l)) (h2:mb st.den.o l = some (q,vs)) (hc:CoL vs res) (hp:p:=by (repeat' apply And.intro) <;> first | trivial | exact b2k rfl | rfl) (hq:q:=by (repeat' apply And.intro) <;> first | trivial | exact b2k rfl | rfl):a4q E st rs res:=⟨p,l,q,vs,h1,hp,h2,hq,hc⟩
def u9 {f:Option a6} {x:a6} (h:f = some x:=by exact rfl):∃ y,f = some y /\ CoO y x:=⟨x,h,CoO.refl x⟩
def b5r (h:p:=by simp_all):p:=h
def zy {f:Option HR} {x y:HR} (h:f = some y:=by exact rfl) (c:CoR y x:=by first | exact CoR.refl _ | exact coi b5h | exact cob b5r):∃ y,f = some y /\ CoR y x:=⟨y,h,c⟩
def l9 {a b:Nat} (h:Nat.ble a b = true:=by exact rfl):a <= b:=b2k h
def qcx {cl:Call} {f:FuncId} {fst caps args vs:List PC} {b:Bool} {res:PR} (hf:goodFn P f) (hpure:aa P f args res) (hT:Reg P E nt ops L (st.after o.dst (some res.toH) []) fun T sf=>K (⟨i,⟨0,false,true,res,[],[],[]⟩,looks st.den o,bg st.den o.dst [],none⟩ :: T) sf) (hi:ops[i]? = some o:=by exact rfl) (hw:al ops st.den o = some gb:=by exact rfl) (hd:c4 nt o.dst = true:=by exact rfl) (ho:o.op = .call cl:=by exact rfl) (hc:callee (ev st.den) cl = some (f,fst,caps):=by exact rfl) (hv:fv st.den.o (ev st.den) cl.args.toList = some (p,vs,b):=by exact rfl) (hco:CoL (fst ++ (vs ++ caps)) args:=by exact CoL.refl _) (hb:(!b || res.flat) = true:=by exact rfl) (hg:gb = true:=by exact rfl) (hp:p:=by (try dsimp only) <;> ((repeat' apply And.intro) <;> first | trivial | rfl | omega | assumption)):Reg P E nt ops (i :: L) st K:=aeb hi hw hd ho hc hv hf hpure hco hg hp hb hT
def wgx {f : FuncId} {fn : Func} (h : P.funcs[f]? = some fn) (h1 : (fn.name == "runtime.NumGoroutine") = false := by kernel_rfl) (h2 : fn.body.isNone = false := by kernel_rfl) : goodFn P f := ⟨fn, h, h1, h2⟩
def az1 [Decidable p] (h:decide p = true):p:=of_decide_eq_true h
def at1 [Decidable p] (h:decide p = false):¬ p:=of_decide_eq_false h
def ty {n:Nat}:((n:Nat):Int).toNat = n:=b41 n
end
end
def gy {ro:Option Nat} {nt id:Nat} {ops:Array Oper} {st:HSt} {Q:Exit -> HSt -> Prop} (h:Reg b65 o6 nt ops (List.range ops.size) st fun _ sf=>Q .normal sf):HW (ro:=ro) b65 nt (.region id ops false) st Q:=a80 o9 h
end Go.Hx
namespace Go.Hx
open Go.Proofs
section
variable {Q:Exit -> HSt -> Prop}
def sx7 {ro:Option Nat} {nt id:Nat} {ops:Array Oper} {st:HSt} {y:Code} (h:Reg b65 o6 nt ops (List.range ops.size) st fun _ sf=>auh (ro:=ro) b65 nt y Q .normal sf):HW (ro:=ro) b65 nt (.seq (.region id ops false) y) st Q:=dn (a80 o9 h)
def hx8 {ro:Option Nat} {P:Program} {E:Env} {nt:Nat} {st:HSt} {rs:List ResultVar} {res:List PC} {p q:Prop} {l:List HC} {vs:List PC} (hQ:Q .ret st = ((Exit.ret = .normal \/ Exit.ret = .ret) /\ a4q E st rs res)) (h1:u0 E st.den rs = some (p,l)) (h2:mb st.den.o l = some (q,vs)) (hc:CoL vs res) (hp:p:=by (repeat' apply And.intro) <;> first | trivial | exact b2k rfl | rfl) (hq:q:=by (repeat' apply And.intro) <;> first | trivial | exact b2k rfl | rfl):HW (ro:=ro) P nt .ret st Q:=a3h (hQ ▸ ⟨.inr rfl,p,l,q,vs,h1,hp,h2,hq,hc⟩)
end
end Go.Hx
namespace Go.Hx
open Go.Proofs
def tz1 {p q:Prop} {d:Decidable p} (h:decide p = true) (e:p = q:=by first | (simp only [ty];done) | (simp only [ty];exact rfl) | exact rfl):q:=e ▸ of_decide_eq_true h
def tz2 {p q:Prop} {d:Decidable p} (h:decide p = false) (e:(¬ p) = q:=by first | (simp only [ty];done) | (simp only [ty];exact rfl) | exact rfl):q:=e ▸ of_decide_eq_false h
section
variable {ro:Option Nat} {P:Program} {nt:Nat} {st:HSt} {Q:Exit -> HSt -> Prop} {c:Operand} {x y:Code} {p q q':Prop} {d:Decidable p}
def hcd (ht:q -> HW (ro:=ro) P nt x st Q) (hf:q' -> HW (ro:=ro) P nt y st Q) (hc:ev st.den c = some (.v (.one (.p (.raw (.bool (@decide p d)))))):=by exact rfl) (e:p = q:=by first | (simp only [ty];done) | (simp only [ty];exact rfl) | exact rfl) (e':(¬ p) = q':=by first | (simp only [ty];done) | (simp only [ty];exact rfl) | exact rfl):HW (ro:=ro) P nt (.cond c x y) st Q :=
 aj _ hc (fun h=>ht (e ▸ of_decide_eq_true h)) (fun h=>hf (e' ▸ of_decide_eq_false h))
def hcn (ht:q' -> HW (ro:=ro) P nt x st Q) (hf:q -> HW (ro:=ro) P nt y st Q) (hc:ev st.den c = some (.v (.one (.p (.raw (.bool (!(@decide p d))))))):=by exact rfl) (e:p = q:=by first | (simp only [ty];done) | (simp only [ty];exact rfl) | exact rfl) (e':(¬ p) = q':=by first | (simp only [ty];done) | (simp only [ty];exact rfl) | exact rfl):HW (ro:=ro) P nt (.cond c x y) st Q :=
 aj _ hc (fun h=>ht (e' ▸ of_decide_eq_false (ec h))) (fun h=>hf (e ▸ of_decide_eq_true (eg h)))
def hcb {b:Bool} (ht:b = true -> HW (ro:=ro) P nt x st Q) (hf:b = false -> HW (ro:=ro) P nt y st Q) (hc:ev st.den c = some (.v (.one (.p (.raw (.bool b))))):=by exact rfl):HW (ro:=ro) P nt (.cond c x y) st Q:=aj _ hc ht hf
def hcv {b:Bool} (ht:b = false -> HW (ro:=ro) P nt x st Q) (hf:b = true -> HW (ro:=ro) P nt y st Q) (hc:ev st.den c = some (.v (.one (.p (.raw (.bool (!b)))))):=by exact rfl):HW (ro:=ro) P nt (.cond c x y) st Q :=
 aj _ hc (fun h=>ht (ec h)) (fun h=>hf (eg h))
def ka {x:HR} {r l:List (Nat × Option HR)} (d:Nat) (h:lm r l) (e:b6 l d = some x:=by exact rfl):lm ((d,some x) :: r) l:=⟨⟨x,e,CoR.refl x⟩,h⟩
section
variable {l:List (Nat × Option a6)}
def kb {x:a6} {r:List (Nat × Option a6)} (d:Nat) (h:ml r l) (e:b6 l d = some x:=by exact rfl):ml ((d,some x) :: r) l:=⟨⟨x,e,CoO.refl x⟩,h⟩
def kn {l:List (Nat × Option HR)}:lm [] l:=trivial
def km:ml [] l:=trivial
variable {ko:List (Nat × Option a6)} {kt:List (Nat × Option HR)} {ι:Type}
def ai {body:Code} (hT:lm kt st.t) (hO:ml ko st.o) (J:ι -> HSt) (p:ι -> Prop) (μ:ι -> Nat) (i0:ι) (h0:p i0) (hs:Sub (J i0) st) (round:∀ i,p i -> HW (ro:=ro) P nt body ((J i).app ⟨kt,ko⟩) (a8o (fun i=>(J i).app ⟨kt,ko⟩) p μ i Q)):HW (ro:=ro) P nt (.loop body) st Q:=aae ⟨kt,ko⟩ ⟨hT,hO⟩ J p μ i0 h0 hs round
def c5 {x y:Code} (hT:lm kt st.t) (hO:ml ko st.o) (J:ι -> HSt) (p:ι -> Prop) (h1:HW (ro:=ro) P nt x st (ao2 (fun i=>(J i).app ⟨kt,ko⟩) p Q)) (h2:∀ i,p i -> HW (ro:=ro) P nt y ((J i).app ⟨kt,ko⟩) Q):HW (ro:=ro) P nt (.seq x y) st Q:=abu ⟨kt,ko⟩ ⟨hT,hO⟩ J p h1 h2
def tt {p:Prop} (h:p:=by repeat (first | exact trivial | refine ⟨⟨_,rfl,CoR.refl _⟩, ?_⟩ | refine ⟨⟨_,rfl,(by first | exact CoR.refl _ | exact coi b5h | exact cob b5r)⟩, ?_⟩)):p:=h
def uu {p:Prop} (h:p:=by repeat (first | exact trivial | refine ⟨⟨_,rfl,CoO.refl _⟩, ?_⟩)):p:=h
def kk {a b:HSt} (h:lm a.t b.t:=by exact tt) (h2:ml a.o b.o:=by exact uu):Sub a b:=⟨h,h2⟩
def c7 {body:Code} (hT:lm kt st.t) (hO:ml ko st.o) (J:Nat -> HSt) (N:Nat) (hs:Sub (J 0) st) (round:∀ i,i <= N -> HW (ro:=ro) P nt body ((J i).app ⟨kt,ko⟩) (a8o (fun i=>(J i).app ⟨kt,ko⟩) (fun i=>i <= N) (fun i=>N - i) i Q)):HW (ro:=ro) P nt (.loop body) st Q:=aae ⟨kt,ko⟩ ⟨hT,hO⟩ J (fun i=>i <= N) (fun i=>N - i) 0 (b2n _) hs round
def azp (S:HSt) (Q:Exit -> HSt -> Prop):Exit -> HSt -> Prop
 | .normal,st=>Sub S st
 | e,st=>Q e st
def aov {x y:Code} (hT:lm kt st.t) (hO:ml ko st.o) (J:HSt) (h1:HW (ro:=ro) P nt x st (azp (J.app ⟨kt,ko⟩) Q)) (h2:HW (ro:=ro) P nt y (J.app ⟨kt,ko⟩) Q):HW (ro:=ro) P nt (.seq x y) st Q :=
 abu (ι:=Unit) ⟨kt,ko⟩ ⟨hT,hO⟩ (fun _=>J) (fun _=>True) (aeu h1 fun e st' h=>by cases e <;> first | exact ⟨(),trivial,h⟩ | exact h) fun _ _=>h2
def hcT (h:HW (ro:=ro) P nt x st Q) (hc:ev st.den c = some (.v (.one (.p (.raw (.bool true))))):=by exact rfl):HW (ro:=ro) P nt (.cond c x y) st Q:=aj _ hc (fun _=>h) (fun e=>Bool.noConfusion e)
def hcF (h:HW (ro:=ro) P nt y st Q) (hc:ev st.den c = some (.v (.one (.p (.raw (.bool false))))):=by exact rfl):HW (ro:=ro) P nt (.cond c x y) st Q:=aj _ hc (fun e=>Bool.noConfusion e) (fun _=>h)
def hrr {X:Prop} (h:X) (hQ:Q .ret st = ((Exit.ret = .normal \/ Exit.ret = .ret) /\ X):=by exact rfl):HW (ro:=ro) P nt .ret st Q:=a3h (hQ ▸ ⟨.inr rfl,h⟩)
def hxr {E:Env} {rs:List ResultVar} {res:List PC} {p q:Prop} {l:List HC} {vs:List PC} (hc:CoL vs res) (hQ:Q .ret st = ((Exit.ret = .normal \/ Exit.ret = .ret) /\ a4q E st rs res):=by exact rfl) (h1:u0 E st.den rs = some (p,l):=by exact rfl) (h2:mb st.den.o l = some (q,vs):=by exact rfl)
 (hp:p:=by (repeat' apply And.intro) <;> first | trivial | exact b2k rfl | rfl) (hq:q:=by (repeat' apply And.intro) <;> first | trivial | exact b2k rfl | rfl):HW (ro:=ro) P nt .ret st Q:=a3h (hQ ▸ ⟨.inr rfl,p,l,q,vs,h1,hp,h2,hq,hc⟩)
def kd {a b:Prop} (h:b) (k:a:=by kernel_rfl):a /\ b:=⟨k,h⟩
def lpz {I:ι -> HSt} {pp:ι -> Prop} {μ:ι -> Nat} {k:Nat} (i':ι) (hs:Sub (I i') st) (hp:pp i') (hm:μ i' < k:=by first | omega | (dsimp only;omega)):∃ i',pp i' /\ μ i' < k /\ Sub (I i') st:=⟨i',hp,hm,hs⟩
def lpx {I:ι -> HSt} {pp:ι -> Prop} {μ:ι -> Nat} {k:Nat} (i':ι) (hs:Sub (I i') st) (hp:pp i':=by first | trivial | (show _ + 1 <= _;omega)) (hm:μ i' < k:=by first | omega | (dsimp only;omega)):∃ i',pp i' /\ μ i' < k /\ Sub (I i') st:=⟨i',hp,hm,hs⟩
end
end
def hpx {nt:Nat} {f:FuncId} {fn:Func} {body:Code} {args res:List PC} (hf:b65.funcs[f]? = some fn) (h:HW (ro:=none) b65 nt body ⟨xc 0 args,[]⟩ fun e st=>(e = .normal \/ e = .ret) /\ a4q o6 st fn.results.toList res) (hb:fn.body = some body:=by exact rfl) (hn:fn.ntmps = nt:=by exact rfl) (hl:args.length <= nt:=by exact b2k rfl):aa b65 f args (af res):=an7 o9 hf hb hn hl h
def hfx {nt:Nat} {f:FuncId} {fn:Func} {body:Code} {args:List HC} {o1 o2:List (Nat × a6)} {res:HR} {fx:List Nat} (hf:b65.funcs[f]? = some fn) (h:HW (ro:=none) b65 nt body ⟨u6 0 args,a0l o1⟩ fun e st=>(e = .normal \/ e = .ret) /\ auj o6 st fn.results.toList res o2) (hb:fn.body = some body:=by exact rfl) (hn:fn.ntmps = nt:=by exact rfl) (hl:args.length <= nt:=by exact b2k rfl) (hx:fx.all (Nat.ble 1000) = true:=by exact rfl):ci b65 f args o1 res o2 fx:=asa o9 hf hb hn hl hx h
def gd {ro:Option Nat} {nt id:Nat} {ops:Array Oper} {st:HSt} {Q:Exit -> HSt -> Prop} (h:Reg b65 o6 nt ops (List.range ops.size) st fun T sf=>a4a ops T = true /\ Q .normal sf):HW (ro:=ro) b65 nt (.region id ops true) st Q:=ara o9 ai3 _ h
section
variable {P:Program} {E:Env} {nt:Nat} {ops:Array Oper} {i:Nat} {o:Oper} {st:HSt} {L:List Nat} {K:List Tr -> HSt -> Prop}
def r9 (id:Nat) (wb:Bool) {u:App} {gb:Bool} (hT:Reg P E nt ops L (st.after o.dst (some u.val) [(u.id,some u.ob)]) fun T sf=>K (⟨i,⟨id,wb,true, .tup [],[u.id],if u.new then [id] else [],u.val.ids ++ u.ob.ids⟩,looks st.den o,bg st.den o.dst [(u.id,some u.ob)],none⟩ :: T) sf)
 (hi:ops[i]? = some o:=by exact rfl) (hw:al ops st.den o = some gb:=by exact rfl) (hd:c4 nt o.dst = true:=by exact rfl) (hq':hap E st.den.o (ev st.den) id wb o.op = some u:=by exact rfl) (hn:(!u.new || o7 id st) = true:=by exact rfl) (hg:gb = true:=by exact rfl)
 (hp:u.pre:=by (try dsimp only) <;> ((repeat' apply And.intro) <;> first | trivial | rfl | assumption | omega | (simp only [b41];omega) | (simp only [fu,bo];omega) | exact Or.inl rfl | exact Or.inr rfl | exact (fun _=>Or.inl rfl) | exact (fun _=>Or.inr (b2k rfl)) | exact b2k rfl | (intro h;cases h;done))):Reg P E nt ops (i :: L) st K:=w9 id wb hi hw hd hq' hn hg hp hT
def fc9 {cl:Call} {f:FuncId} {caps hcs:List HC} {args:List HC} {o1 o2:List (Nat × a6)} {res:HR} {fx:List Nat} {gb:Bool} (hf:goodFn P f) (hfun:ci P f args o1 res o2 fx) (hsub:a9p o1 st.den.o)
 (hT:Reg P E nt ops L (st.after o.dst (some res) (sv o1 o2)) fun T sf=>K (⟨i,⟨0,false,true, .tup [],c0 o1 ++ c0 o2,acd o1 o2 fx,res.ids ++ a33 o2⟩,looks st.den o,bg st.den o.dst (sv o1 o2),none⟩ :: T) sf)
 (hi:ops[i]? = some o:=by exact rfl) (hw:al ops st.den o = some gb:=by exact rfl) (hd:c4 nt o.dst = true:=by exact rfl) (ho:o.op = .call cl:=by exact rfl) (hc:oh (ev st.den) cl = some (f,caps):=by exact rfl) (hv:mf (ev st.den) cl.args.toList = some hcs:=by exact rfl) (hco:nq (hcs ++ caps) args:=by exact nq.refl _) (hB:fcB o1 o2 res fx st = true:=by exact rfl) (hg:gb = true:=by exact rfl):Reg P E nt ops (i :: L) st K:=gl hi hw hd ho hc hv hf hfun hco hsub hB hg hT
end
end Go.Hx
end
section
namespace Go.Hx
structure Hq (Q:Prop):Prop where
 v:Q
section
variable {P Q:Prop}
def w_1 (hQ:Q) (h:Hq Q -> P:=by intro h;(first | refine qy ?_ | refine cg ?_ | refine dn ?_ | refine gy ?_ | refine s9 ?_ | refine gd ?_ | refine kd ?_ | refine hcT ?_ | refine hcF ?_ | refine ek ?_ | refine a3h ?_ | refine a9a ?_ | refine c6 ?_);exact h.v):P:=h ⟨hQ⟩
def w_2 (hQ:Q) (h:Hq Q -> P:=by intro h;(iterate 2 refine w_1 ?_);exact h.v):P:=h ⟨hQ⟩
def w_3 (hQ:Q) (h:Hq Q -> P:=by intro h;(iterate 3 refine w_1 ?_);exact h.v):P:=h ⟨hQ⟩
def w_4 (hQ:Q) (h:Hq Q -> P:=by intro h;(iterate 4 refine w_1 ?_);exact h.v):P:=h ⟨hQ⟩
def w_5 (hQ:Q) (h:Hq Q -> P:=by intro h;(iterate 5 refine w_1 ?_);exact h.v):P:=h ⟨hQ⟩
def w_6 (hQ:Q) (h:Hq Q -> P:=by intro h;(iterate 6 refine w_1 ?_);exact h.v):P:=h ⟨hQ⟩
def w_7 (hQ:Q) (h:Hq Q -> P:=by intro h;(iterate 7 refine w_1 ?_);exact h.v):P:=h ⟨hQ⟩
def w_8 (hQ:Q) (h:Hq Q -> P:=by intro h;(iterate 8 refine w_1 ?_);exact h.v):P:=h ⟨hQ⟩
def w_9 (hQ:Q) (h:Hq Q -> P:=by intro h;(iterate 9 refine w_1 ?_);exact h.v):P:=h ⟨hQ⟩
def dy (hQ:Q) (h:Hq Q -> P:=by intro h;(iterate 10 refine w_1 ?_);exact h.v):P:=h ⟨hQ⟩
def j5 (hQ:Q) (h:Hq Q -> P:=by intro h;(iterate 11 refine w_1 ?_);exact h.v):P:=h ⟨hQ⟩
def su (hQ:Q) (h:Hq Q -> P:=by intro h;(iterate 12 refine w_1 ?_);exact h.v):P:=h ⟨hQ⟩
def j3 (hQ:Q) (h:Hq Q -> P:=by intro h;(iterate 13 refine w_1 ?_);exact h.v):P:=h ⟨hQ⟩
def z7 (hQ:Q) (h:Hq Q -> P:=by intro h;(iterate 14 refine w_1 ?_);exact h.v):P:=h ⟨hQ⟩
def tk (hQ:Q) (h:Hq Q -> P:=by intro h;(iterate 15 refine w_1 ?_);exact h.v):P:=h ⟨hQ⟩
def vc (hQ:Q) (h:Hq Q -> P:=by intro h;(iterate 16 refine w_1 ?_);exact h.v):P:=h ⟨hQ⟩
def v2 (hQ:Q) (h:Hq Q -> P:=by intro h;(iterate 17 refine w_1 ?_);exact h.v):P:=h ⟨hQ⟩
def av7 (hQ:Q) (h:Hq Q -> P:=by intro h;(iterate 18 refine w_1 ?_);exact h.v):P:=h ⟨hQ⟩
def acb (hQ:Q) (h:Hq Q -> P:=by intro h;(iterate 19 refine w_1 ?_);exact h.v):P:=h ⟨hQ⟩
def ank (hQ:Q) (h:Hq Q -> P:=by intro h;(iterate 20 refine w_1 ?_);exact h.v):P:=h ⟨hQ⟩
def age (hQ:Q) (h:Hq Q -> P:=by intro h;(iterate 21 refine w_1 ?_);exact h.v):P:=h ⟨hQ⟩
def ali (hQ:Q) (h:Hq Q -> P:=by intro h;(iterate 22 refine w_1 ?_);exact h.v):P:=h ⟨hQ⟩
def agt (hQ:Q) (h:Hq Q -> P:=by intro h;(iterate 23 refine w_1 ?_);exact h.v):P:=h ⟨hQ⟩
def ayy (hQ:Q) (h:Hq Q -> P:=by intro h;(iterate 26 refine w_1 ?_);exact h.v):P:=h ⟨hQ⟩
def avt (hQ:Q) (h:Hq Q -> P:=by intro h;(iterate 29 refine w_1 ?_);exact h.v):P:=h ⟨hQ⟩
def ayl (hQ:Q) (h:Hq Q -> P:=by intro h;(iterate 30 refine w_1 ?_);exact h.v):P:=h ⟨hQ⟩
def aw0 (hQ:Q) (h:Hq Q -> P:=by intro h;(iterate 32 refine w_1 ?_);exact h.v):P:=h ⟨hQ⟩
end
end Go.Hx
end
section
namespace Go.Hx
theorem v_2 {P Q:Prop} (hQ:Q) (h:Hq Q -> P:=by intro h;(iterate 2 refine w_1 ?_);refine hxr ?_;exact h.v):P:=h ⟨hQ⟩
theorem v_3 {P Q:Prop} (hQ:Q) (h:Hq Q -> P:=by intro h;(iterate 3 refine w_1 ?_);refine hxr ?_;exact h.v):P:=h ⟨hQ⟩
theorem v_4 {P Q:Prop} (hQ:Q) (h:Hq Q -> P:=by intro h;(iterate 4 refine w_1 ?_);refine hxr ?_;exact h.v):P:=h ⟨hQ⟩
theorem v_5 {P Q:Prop} (hQ:Q) (h:Hq Q -> P:=by intro h;(iterate 5 refine w_1 ?_);refine hxr ?_;exact h.v):P:=h ⟨hQ⟩
theorem v_6 {P Q:Prop} (hQ:Q) (h:Hq Q -> P:=by intro h;(iterate 6 refine w_1 ?_);refine hxr ?_;exact h.v):P:=h ⟨hQ⟩
theorem v_7 {P Q:Prop} (hQ:Q) (h:Hq Q -> P:=by intro h;(iterate 7 refine w_1 ?_);refine hxr ?_;exact h.v):P:=h ⟨hQ⟩
theorem v_8 {P Q:Prop} (hQ:Q) (h:Hq Q -> P:=by intro h;(iterate 8 refine w_1 ?_);refine hxr ?_;exact h.v):P:=h ⟨hQ⟩
end Go.Hx
end
namespace Go.Hx
section
open Go.Proofs Go.Lib Go.RowKit
def b1q (k:Nat) (xs vs:List Value):List Value:=xs.take k ++ vs ++ xs.drop k
structure b08 (w w':World) (T s:Nat) (own v:Value) (n:Nat) (xs:List Value):Prop where
 row:w'.ownsRow 0 T s v (n + 1) xs
 bl:Below 0 w w'
 out:∀ g,g < w.heap.size -> bv own ≠ some g -> w'.heap[g]? = w.heap[g]?
 at_:∀ g,bv v = some g -> w.heap.size <= g \/ bv own = some g
def b1x (i:Nat) (F G:Nat -> Nat -> PV):Nat -> Nat -> PV:=fun k j=>if k < i then F k j else if k = i then G 0 j else F (k - 1) j
def lx {id q:Nat} {x ob:a6} (h:lk [(q,x)] id = some ob):id = q /\ ob = x:=by
 simp only [lk] at h;by_cases hk:q = id
 · subst hk
   simp at h;exact ⟨rfl,h.symm⟩
 have:Nat.beq q id = false:=by
  rw [b33];exact fun hb=>hk (b34 hb)
 rw [this] at h;cases h
structure b14 (c:Ctx) (w w':World) (T s a:Nat) (v:Value) (n:Nat) (ys:List Value):Prop where
 row:w'.ownsRow 0 T s v (n + 1) ys
 bl:Below 0 w w'
 out:∀ g,g < w.heap.size -> ¬ c.blk a g -> w'.heap[g]? = w.heap[g]?
 at_:∀ g,bv v = some g -> w.heap.size <= g \/ c.blk a g
def HE (nt:Nat) (st:HSt) (Q:HSt -> Prop):Prop:=∀ w0 m0 a w,Rel w0 m0 nt st.den a w -> ∃ st':HSt,Q st' /\ Rel w0 m0 nt st'.den a w
def afk {nt:Nat} {st:HSt} {Q:HSt -> Prop} (h:Q st):HE nt st Q:=fun _ _ _ _ hr=>⟨st,h,hr⟩
end
section
open Go.RowKit
abbrev AS:=BitVec 32
abbrev asI (s:AS):Int:=(s.toNat:Int)
def asC (s:AS):PV:=.raw (.int .u32 (asI s))
def akw {n:Int} (h0:0 <= n) (h1:n < 4294967296):IntKind.wrap .u32 n = n:=xi (by simp only [inR,uw,a07];omega)
def a9e (s:AS):asI s < 4294967296:=by
 have:=s.isLt;unfold asI;omega
def aag (s:AS):0 <= asI s:=Int.natCast_nonneg _
def um (s:AS):BitVec.ofInt 32 (asI s) = s:=by
 unfold asI;rw [BitVec.ofInt_natCast,BitVec.ofNat_toNat,BitVec.setWidth_eq]
def s7 {a b:AS}:asI a = asI b <-> a = b:=by
 unfold asI;rw [Int.ofNat_inj];exact BitVec.toNat_inj
def a9c (s:AS):IntKind.wrap .u32 (s.toNat:Int) = asI s:=akw (aag s) (a9e s)
def ana (a b:AS):k8 .and .u32 (asI a) (asI b) = asI (a &&& b):=by
 show IntKind.wrap .u32 ((BitVec.ofInt 32 (asI a) &&& BitVec.ofInt 32 (asI b)).toNat:Int) = _;rw [um,um,a9c]
def bOr (a b:AS):k8 .or .u32 (asI a) (asI b) = asI (a ||| b):=by
 show IntKind.wrap .u32 ((BitVec.ofInt 32 (asI a) ||| BitVec.ofInt 32 (asI b)).toNat:Int) = _;rw [um,um,a9c]
def al2 (a:AS) (n:Nat):(asI a).fdiv (2 ^ (min n 32)) = asI (a >>> n):=by
 have e:(2:Int) ^ (min n 32) = ((2 ^ (min n 32):Nat):Int):=by rw [Int.natCast_pow];rfl
 rw [e];unfold asI;rw [Int.fdiv_eq_ediv_of_nonneg _ (Int.natCast_nonneg _),<- Int.natCast_ediv,BitVec.toNat_ushiftRight,Nat.shiftRight_eq_div_pow];by_cases h:n <= 32
 · rw [b3n h]
 rw [Nat.min_eq_right b5h];have h1:=a.isLt;have h2:2 ^ 32 <= 2 ^ n:=Nat.pow_le_pow_right b5h b5h;rw [Nat.div_eq_of_lt b5h,Nat.div_eq_of_lt (b4e b5h h2)]
def av8 (a:AS) (n:Nat):IntKind.wrap .u32 (asI a * 2 ^ (min n 32)) = asI (a <<< n):=by
 have e:asI a * (2:Int) ^ (min n 32) = ((a.toNat * 2 ^ (min n 32):Nat):Int):=by rw [Int.natCast_mul,Int.natCast_pow];rfl
 rw [e]
 have hw:∀ m:Nat,IntKind.wrap .u32 (m:Int) = ((m % 4294967296:Nat):Int):=by
  intro m;simp [IntKind.wrap,IntKind.signed,IntKind.bits]
 rw [hw];unfold asI;rw [BitVec.toNat_shiftLeft,Nat.shiftLeft_eq];by_cases h:n <= 32
 · rw [b3n h]
 rw [Nat.min_eq_right b5h];have h1:a.toNat * 2 ^ 32 % 2 ^ 32 = 0:=Nat.mul_mod_left _ _
 have h2:a.toNat * 2 ^ n % 2 ^ 32 = 0:=by
  obtain ⟨k,rfl⟩:∃ k,n = k + 32:=⟨n - 32,by omega⟩;rw [Nat.pow_add,<- Nat.mul_assoc];exact Nat.mul_mod_left _ _
 have h1:a.toNat * 2 ^ 32 % 4294967296 = 0:=h1;rw [h1,h2]
end
section
structure Fd where
 lhs:AS
 rhs:AS
instance:Inhabited Fd:=⟨⟨0,0⟩⟩
theorem Fd.eq_iff {a b:Fd}:a = b <-> a.lhs = b.lhs /\ a.rhs = b.rhs:=by cases a;cases b;simp
instance:DecidableEq Fd:=fun a b=>decidable_of_iff _ (Fd.eq_iff (a:=a) (b:=b)).symm
def Fd.c (x:Fd):Nat -> PV
 | 0=>asC x.lhs
 | 1=>asC x.rhs
 | _=>.any
def sub (a b:AS):Prop:=a &&& ~~~b = 0
instance:DecidablePred fun p:AS × AS=>sub p.1 p.2:=fun p=>inferInstanceAs (Decidable (_ = _))
instance {a b:AS}:Decidable (sub a b):=inferInstanceAs (Decidable (_ = _))
section
variable {a b:AS}
def dt:sub a b <-> ∀ i,i < 32 -> a.getLsbD i = true -> b.getLsbD i = true:=by
 unfold sub;constructor
 · intro h i hi ha
   have:=congrArg (fun x:AS=>x.getLsbD i) h;simp only [b3y,BitVec.getLsbD_not,hi,ha,decide_true,b5a] at this;simpa using this
 intro h;apply b47;intro i hi;have:=h i hi;simp only [b3y,BitVec.getLsbD_not,hi,decide_true,b5a];cases ha:a.getLsbD i <;> cases hb:b.getLsbD i <;> simp_all
def ow (a:AS):sub a a:=dt.2 fun _ _ h=>h
def qg {c:AS} (h:sub a b) (k:sub b c):sub a c:=dt.2 fun i hi ha=>dt.1 k i hi (dt.1 h i hi ha)
def a3c:sub a (a ||| b):=dt.2 fun i hi ha=>by simp [ha]
def a3f:sub b (a ||| b):=dt.2 fun i hi ha=>by simp [ha]
def a4c {c:AS} (h:sub a c) (k:sub b c):sub (a ||| b) c:=dt.2 fun i hi ha=>by
 rw [b52,b3s] at ha
 rcases ha with ha | ha
 · exact dt.1 h i hi ha
 exact dt.1 k i hi ha
def oe (h:sub a b) (k:sub b a):a = b:=by
 apply b47;intro i hi;have h1:=dt.1 h i hi;have h2:=dt.1 k i hi;cases ha:a.getLsbD i <;> cases hb:b.getLsbD i <;> simp_all
def av3 (h:sub a b):a.toNat <= b.toNat:=by
 have e:a ||| b = b:=oe (a4c h (ow b)) a3f
 have:a.toNat <= (a ||| b).toNat:=by rw [BitVec.toNat_or];exact Nat.left_le_or
 rwa [e] at this
def aba (h:sub a b) (hne:a ≠ b):a.toNat < b.toNat:=by
 rcases b5c (av3 h) with h | h
 · exact h
 exact absurd (b4y h) hne
def gf (s:AS) (f:Fd):AS:=if sub f.lhs s then s ||| f.rhs else s
def l3 (l:List Fd) (s:AS):AS:=l.foldl gf s
variable {s:AS}
def a41 {f:Fd}:sub s (gf s f):=by
 unfold gf;split
 · exact a3c
 exact ow s
def ug:∀ {l:List Fd} {s:AS},sub s (l3 l s)
 | [],s=>ow s
 | f :: l,s=>qg a41 (ug (l:=l) (s:=gf s f))
def clF (l:List Fd):Nat -> AS -> AS
 | 0,s=>s
 | n + 1,s=>if l3 l s = s then s else clF l n (l3 l s)
def clo (l:List Fd) (s:AS):AS:=clF l 4294967296 s
variable {l:List Fd}
def a4e:∀ {n:Nat} {s:AS},4294967296 - s.toNat <= n -> l3 l (clF l n s) = clF l n s
 | 0,s,hn=>by have:=s.isLt;omega
 | n + 1,s,hn=>by
  unfold clF;split
  · assumption
  rename_i hne;have:=aba (ug (l:=l) (s:=s)) (fun e=>hne e.symm);exact a4e b5h
def ag7:l3 l (clo l s) = clo l s:=a4e b5h
def aiz:∀ {n:Nat} {s:AS},sub s (clF l n s)
 | 0,s=>ow s
 | n + 1,s=>by
  unfold clF;split
  · exact ow s
  exact qg ug aiz
def aj2:sub s (clo l s):=aiz
def pf (l:List Fd) (s:AS):Prop:=∀ f ∈ l,sub f.lhs s -> sub f.rhs s
def qv:∀ {l:List Fd} {s:AS},l3 l s = s <-> pf l s
 | [],s=>⟨fun _ f hf=>(by cases hf),fun _=>rfl⟩
 | f :: l,s=>by
  constructor
  · intro h
    have h1:gf s f = s:=oe (by have:=ug (l:=l) (s:=gf s f);rw [show l3 l (gf s f) = s from h] at this;exact this) a41
    have h2:l3 l s = s:=by
     have:l3 l (gf s f) = s:=h;rwa [h1] at this
    intro g hg
    rcases b2s.1 hg with rfl | hg
    · intro hl
      rw [gf,if_pos hl] at h1;rw [<- h1];exact a3f
    exact qv.1 h2 g hg
  intro h
  have h1:gf s f = s:=by
   unfold gf;split
   · rename_i hl
     exact oe (a4c (ow s) (h f (b3u ..) hl)) a3c
   rfl
  show l3 l (gf s f) = s;rw [h1];exact qv.2 fun g hg=>h g (b38 _ hg)
def a4o:∀ {l:List Fd} {s t:AS},pf l t -> sub s t -> sub (l3 l s) t
 | [],s,t,_,h=>h
 | f :: l,s,t,ht,h=>a4o (l:=l) (fun g hg=>ht g (b38 _ hg)) (by
  unfold gf;split
  · rename_i hl
    exact a4c h (ht f (b3u ..) (qg hl h))
  exact h)
def af3 {t:AS} (ht:pf l t):∀ {n:Nat} {s:AS},sub s t -> sub (clF l n s) t
 | 0,s,h=>h
 | n + 1,s,h=>by
  unfold clF;split
  · exact h
  exact af3 ht (a4o ht h)
def a7g {t:AS} (ht:pf l t) (h:sub s t):sub (clo l s) t:=af3 ht h
def yg:pf l (clo l s):=qv.1 ag7
end
end
section
abbrev pI (a:Int):PC:=.one (.raw (.int .i64 a))
abbrev pB (b:Bool):PC:=.one (.raw (.bool b))
abbrev pP (x:PV):PC:=.one x
abbrev pA (s:AS):PC:=.one (.raw (.int .u32 (asI s)))
abbrev fdl (l:List Fd):PV:=psl 2 Fd.c l
abbrev asl (l:List AS):PV:=psl 1 (fun s _=>asC s) l
abbrev vI (a:Int):HR:=az (.raw (.int .i64 a))
abbrev vA (s:AS):HR:=az (.raw (.int .u32 (asI s)))
def inU (n:Int) (f:Fd):Bool:=decide ((f.lhs ||| f.rhs) >>> n.toNat = 0)
def dm (n:Int) (l:List Fd):Int:=if n < 0 \/ 16 < n then 7 else if 64 < l.length then 3 else if l.all (inU n) = true then 0 else 1
def a14 {n:Int} {f:Fd}:(k8 .or .u32 (asI f.lhs) (asI f.rhs)).fdiv (2 ^ (min n.toNat 32)) = 0 <-> inU n f = true:=by
 rw [bOr,al2,show (0:Int) = asI 0 from rfl,s7];unfold inU;rw [decide_eq_true_iff]
def a8y {k:IntKind} {a b:Int} (h:a = b):CoR (az (.raw (.int k a))) (az (.raw (.int k b))):=by
 rw [h];exact CoR.refl _
def iu (n:Nat):AS:=(List.range n).foldl (fun s i=>s ||| ((1:AS) <<< i)) 0
def b5 (n:Int):AS:=iu (min n.toNat 32)
def a5b (i:Nat):iu (i + 1) = iu i ||| ((1:AS) <<< i):=by
 unfold iu;rw [List.range_succ,b4t];rfl
def aju (i:Nat):k8 .or .u32 (asI (iu i)) (IntKind.wrap .u32 (1 * 2 ^ (min i 32))) = asI (iu (i + 1)):=by
 have e:IntKind.wrap .u32 (1 * 2 ^ (min i 32)) = asI ((1:AS) <<< i):=av8 1 i;rw [e,bOr,a5b]
end
section
abbrev pU8 (a:Int):PC:=.one (.raw (.int .u8 a))
abbrev pS (s:ByteArray):PC:=.one (.raw (.string s))
abbrev vU8 (a:Int):HR:=az (.raw (.int .u8 a))
abbrev vB (b:Bool):HR:=az (.raw (.bool b))
abbrev vS (s:ByteArray):HR:=az (.raw (.string s))
abbrev vP (x:PV):HR:=az x
abbrev Lim:Nat:=68719476736
structure Val where
 kind:Int
 num:Int
 str:ByteArray
instance:Inhabited Val:=⟨⟨0,0,⟨#[]⟩⟩⟩
theorem Val.eq_iff {a b:Val}:a = b <-> a.kind = b.kind /\ a.num = b.num /\ a.str = b.str:=by cases a;cases b;simp
instance:DecidableEq Val:=fun a b=>decidable_of_iff _ (Val.eq_iff (a:=a) (b:=b)).symm
def Val.c (v:Val):Nat -> PV
 | 0=>.raw (.int .i64 v.kind)
 | 1=>.raw (.int .i64 v.num)
 | 2=>.raw (.string v.str)
 | _=>.any
abbrev vals (l:List Val):PV:=psl 3 Val.c l
abbrev Val.pc (v:Val):PC:=.agg [v.c 0,v.c 1,v.c 2]
structure Row where
 id:Int
 vals:List Val
instance:Inhabited Row:=⟨⟨0,[]⟩⟩
theorem Row.eq_iff {a b:Row}:a = b <-> a.id = b.id /\ a.vals = b.vals:=by cases a;cases b;simp
instance:DecidableEq Row:=fun a b=>decidable_of_iff _ (Row.eq_iff (a:=a) (b:=b)).symm
def Row.c (r:Row):Nat -> PV
 | 0=>.raw (.int .i64 r.id)
 | 1=>Hx.vals r.vals
 | _=>.any
abbrev rows (l:List Row):PV:=psl 2 Row.c l
abbrev Row.pc (r:Row):PC:=.agg [r.c 0,r.c 1]
def xr (s:ByteArray):Nat -> PV
 | 0=>.raw (.string s)
 | _=>.any
instance:Inhabited ByteArray:=⟨⟨#[]⟩⟩
abbrev ve (l:List ByteArray):PV:=psl 1 xr l
def ayo (s:UInt8):Nat -> PV
 | 0=>.raw (.int .u8 (s.toNat:Int))
 | _=>.any
abbrev u8s (l:List UInt8):PV:=psl 1 ayo l
def ay7 (l:List UInt8):Nat -> PV
 | 0=>u8s l
 | _=>.any
abbrev ay4 (l:List (List UInt8)):PV:=psl 1 ay7 l
structure Tbl where
 name:ByteArray
 attrs:List ByteArray
 rows:List Row
instance:Inhabited Tbl:=⟨⟨⟨#[]⟩,[],[]⟩⟩
theorem Tbl.eq_iff {a b:Tbl}:a = b <-> a.name = b.name /\ a.attrs = b.attrs /\ a.rows = b.rows:=by cases a;cases b;simp
instance:DecidableEq Tbl:=fun a b=>decidable_of_iff _ (Tbl.eq_iff (a:=a) (b:=b)).symm
def Tbl.c (t:Tbl):Nat -> PV
 | 0=>.raw (.string t.name)
 | 1=>ve t.attrs
 | 2=>Hx.rows t.rows
 | _=>.any
abbrev ayw (l:List Tbl):PV:=psl 3 Tbl.c l
abbrev Tbl.pc (t:Tbl):PC:=.agg [t.c 0,t.c 1,t.c 2]
abbrev DB:=List Tbl
abbrev b24 (d:DB):PC:=.agg [ayw d]
structure Chg where
 kind:Int
 name:ByteArray
 table:Tbl
 row:Row
 attr:Int
 value:Val
instance:Inhabited Chg:=⟨⟨0,⟨#[]⟩,default,default,0,default⟩⟩
theorem Chg.eq_iff {a b:Chg}:a = b <-> a.kind = b.kind /\ a.name = b.name /\ a.table = b.table /\ a.row = b.row /\ a.attr = b.attr /\ a.value = b.value:=by cases a;cases b;simp
instance:DecidableEq Chg:=fun a b=>decidable_of_iff _ (Chg.eq_iff (a:=a) (b:=b)).symm
def Chg.c (x:Chg):Nat -> PV
 | 0=>.raw (.int .i64 x.kind)
 | 1=>.raw (.string x.name)
 | 2=>x.table.c 0
 | 3=>x.table.c 1
 | 4=>x.table.c 2
 | 5=>x.row.c 0
 | 6=>x.row.c 1
 | 7=>.raw (.int .i64 x.attr)
 | 8=>x.value.c 0
 | 9=>x.value.c 1
 | 10=>x.value.c 2
 | _=>.any
abbrev atl (l:List Chg):PV:=psl 11 Chg.c l
abbrev Chg.pc (x:Chg):PC:=.agg [x.c 0,x.c 1,x.c 2,x.c 3,x.c 4,x.c 5,x.c 6,x.c 7,x.c 8,x.c 9,x.c 10]
def txC (l:List Chg):Nat -> PV
 | 0=>atl l
 | _=>.any
abbrev txs (l:List (List Chg)):PV:=psl 1 txC l
structure zz where
 attrs:UInt8
 gap:UInt8
 rows:List (List UInt8)
instance:Inhabited zz:=⟨⟨0,0,[]⟩⟩
def zz.c (x:zz):Nat -> PV
 | 0=>.raw (.int .u8 (x.attrs.toNat:Int))
 | 1=>.raw (.int .u8 (x.gap.toNat:Int))
 | 2=>ay4 x.rows
 | _=>.any
abbrev zz.pc (x:zz):PC:=.agg [x.c 0,x.c 1,x.c 2]
structure Opn where
 kind:UInt8
 name:UInt8
 t:zz
 id:Int
 vals:List UInt8
 attr:Int
 value:UInt8
instance:Inhabited Opn:=⟨⟨0,0,default,0,[],0,0⟩⟩
def Opn.c (x:Opn):Nat -> PV
 | 0=>.raw (.int .u8 (x.kind.toNat:Int))
 | 1=>.raw (.int .u8 (x.name.toNat:Int))
 | 2=>x.t.c 0
 | 3=>x.t.c 1
 | 4=>x.t.c 2
 | 5=>.raw (.int .i64 x.id)
 | 6=>u8s x.vals
 | 7=>.raw (.int .i64 x.attr)
 | 8=>.raw (.int .u8 (x.value.toNat:Int))
 | _=>.any
abbrev Opn.pc (x:Opn):PC:=.agg [x.c 0,x.c 1,x.c 2,x.c 3,x.c 4,x.c 5,x.c 6,x.c 7,x.c 8]
abbrev b2b (l:List Opn):PV:=psl 9 Opn.c l
structure Stt where
 done:List (List Chg)
 undone:List (List Chg)
 opn:Bool
 now:List Chg
instance:Inhabited Stt:=⟨⟨[],[],false,[]⟩⟩
def Stt.c (x:Stt):Nat -> PV
 | 0=>txs x.done
 | 1=>txs x.undone
 | 2=>.raw (.bool x.opn)
 | 3=>atl x.now
 | _=>.any
abbrev Stt.pc (x:Stt):PC:=.agg [x.c 0,x.c 1,x.c 2,x.c 3]
def b9 {α:Type} [Inhabited α] (l:List α) (i:Nat) (h:i < l.length):l.getD i default = l[i]:=by simp [List.getD,b2h h]
end
section
open Go.Proofs
def b5i {p:Prop} (h:p:=by assumption):p:=h
def aus (n:Int) (l:List Fd):aa b65 78 [pI n,pP (fdl l)] (af [pI (dm n l)]):=by
 refine hpx (nt:=31) Tryz.func78 ?_;refine dn ?_;refine df 1 rfl fun hlen=>?_;refine w_9 ?_;refine ab rfl rfl (fun r0=>?_) (fun r0=>?_)
 ·
  have h0:=tz1 r0;(iterate 2 refine k9 (gtf r0) ?_);refine w_7 ?_
  exact hx8 rfl rfl rfl (⟨cci (by rw [dm,if_pos b5h]),trivial⟩)
 have h0:=tz2 r0;(iterate 2 refine qy ?_ (hg:=(gff r0)));refine w_2 ?_;refine aj _ rfl (fun r1=>?_) (fun r1=>?_)
 · have h1:=tz1 (ao r0 r1);refine v_4 ?_;exact ⟨cci (by rw [dm,if_pos b5h]),trivial⟩
 have h1:=tz2 (ao r0 r1);refine w_8 ?_;refine hcd (fun h2=>?_) (fun h2=>?_)
 · refine v_4 ?_;exact ⟨cci (by rw [dm,if_neg b5h,if_pos b5h]),trivial⟩
 refine w_9 ?_;refine ai (ι:=Nat) (ka 0 (ka 16 (ka 17 kn))) km (fun i=>⟨[(18,some (vI i))],[]⟩) (fun i=>i <= l.length /\ ∀ j,j < i -> inU n (l.getD j default) = true) (fun i=>l.length - i) (0) (⟨b2n _,fun j hj=>absurd hj (b2o j)⟩) kk ?_;rintro i ⟨hi,hI⟩;refine w_5 ?_;refine hcd (fun h3=>?_) (fun h3=>?_)
 ·
  refine w_7 ?_;refine m9 0 ?_;refine j3 ?_;refine hcn (fun h4=>?_) (fun h4=>?_)
  · refine v_4 ?_;exact ⟨cci (by rw [dm,if_neg b5h,if_neg b5h,if_neg (fun e=>absurd (a4v (l:=l) (p:=inU n) (i:=i) b5h (by rw [b33];exact fun e=>absurd (a14.2 e) b5i)) (by rw [e];decide))]),trivial⟩
  refine w_5 ?_;refine lpz (i + 1) kk ?_;refine ⟨by omega,fun j hj=>?_⟩
  rcases b5c (Nat.le_of_lt_succ hj) with h | h
  · exact hI j h
  subst h;exact a14.1 b5i
 obtain rfl:i = l.length:=by omega
 refine v_5 ?_;exact ⟨cci (by rw [dm,if_neg b5h,if_neg b5h,if_pos (a51 fun j hj=>hI j hj)]),trivial⟩
def ake (n:Int):aa b65 36 [pI n] (af [pA (b5 n)]):=by
 refine hpx (nt:=19) Tryz.func36 ?_;refine z7 ?_;refine c7 (ka 0 kn) km (fun i=>⟨[(4,some (vI i)),(3,some (vA (iu i)))],[]⟩) (min n.toNat 32) kk ?_;rintro i hi;refine w_7 ?_;refine ab rfl rfl (fun r0=>?_) (fun r0=>?_)
 ·
  have h0:=tz1 r0;(iterate 2 refine qy ?_ (hg:=(gtt r0)));refine w_2 ?_;refine aj _ rfl (fun r1=>?_) (fun r1=>?_)
  · have h1:=tz1 (b4 r0 r1);refine tk ?_;exact lpx (i + 1) ⟨⟨zy,⟨_,rfl,(by simp only [b41];exact a8y (aju i))⟩,tt⟩,trivial⟩
  have h1:=tz2 (b4 r0 r1);obtain rfl:i = min n.toNat 32:=by omega
  refine v_6 ?_;exact CoL.refl _
 have h0:=tz2 r0;obtain rfl:i = min n.toNat 32:=by omega
 (iterate 2 refine k9 (gft r0) ?_);refine w_9 ?_
 exact hx8 rfl rfl rfl (CoL.refl _)
end
section
def a0e (i k:Nat) (hk:k < 32):((1:AS) <<< i).getLsbD k = decide (k = i):=by
 rw [BitVec.getLsbD_shiftLeft];by_cases h:k < i
 · simp [h,hk];omega
 by_cases e:k = i
 · subst e;simp [hk]
 have:0 < k - i:=by omega
 simp [hk,h,e,BitVec.getLsbD_one];omega
def jh:∀ (n k:Nat),k < 32 -> (iu n).getLsbD k = decide (k < n)
 | 0,k,hk=>by simp [iu]
 | n + 1,k,hk=>by
  rw [a5b,b52,jh n k hk,a0e n k hk];by_cases h:k < n
  · simp [h];omega
  by_cases e:k = n
  · simp [e]
  simp [h,e];omega
def aup {s:AS} {n:Nat}:s >>> n = 0 <-> ∀ k,k < 32 -> n <= k -> s.getLsbD k = false:=by
 constructor
 · intro h k hk hn
   have:=congrArg (fun x:AS=>x.getLsbD (k - n)) h;simp only [BitVec.getLsbD_ushiftRight] at this;rw [show n + (k - n) = k by omega] at this;simpa using this
 intro h;apply b47;intro i hi;rw [BitVec.getLsbD_ushiftRight];by_cases hk:n + i < 32
 · rw [h (n + i) hk b5h];simp
 rw [BitVec.getLsbD_of_ge _ _ b5h];simp
def xb {s:AS} {n:Nat} (hn:n <= 32):sub s (iu n) <-> s >>> n = 0:=by
 rw [dt,aup];constructor
 · intro h k hk hle
   rw [b33];intro e;have:=h k hk e;rw [jh n k hk,decide_eq_true_iff] at this;omega
 intro h k hk e;rw [jh n k hk,decide_eq_true_iff];apply Nat.lt_of_not_le;intro hle;rw [h k hk hle] at e;cases e
def ar9 {n:Int} (hn:0 <= n) (h16:n <= 16) {f:Fd}:inU n f = true <-> sub f.lhs (b5 n) /\ sub f.rhs (b5 n):=by
 unfold inU b5;rw [decide_eq_true_iff,b3n b5h,<- xb b5h];exact ⟨fun h=>⟨qg a3c h,qg a3f h⟩,fun h=>a4c h.1 h.2⟩
abbrev Fd.pc (f:Fd):PC:=.agg [f.c 0,f.c 1]
def imp (l:List Fd) (f:Fd):Bool:=decide (sub f.rhs (clo l f.lhs))
end
section
variable {α:Type}
def bf [Inhabited α] {l:List α} {q:Nat} (hq:q < l.length):l.take (q + 1) = l.take q ++ [l.getD q default]:=by
 rw [List.take_add_one,b2h hq];simp [List.getD,hq]
def akf [Inhabited α] {l:List α} {q:Nat} (h0:0 < q) (hq:q <= l.length):(l.take q).getLast? = some (l.getD (q - 1) default):=by
 obtain ⟨k,rfl⟩:∃ k,q = k + 1:=⟨q - 1,by omega⟩;rw [bf b5h,List.getLast?_append];simp
section
variable [DecidableEq α]
def ip:Option α -> List α -> List α
 | _,[]=>[]
 | p,x :: l=>if p = some x then ip p l else x :: ip (some x) l
def jb (l:List α):List α:=ip none l
def wh (p:Option α) (l:List α):Option α:=match l.getLast? with | some y=>some y | none=>p
def ade (p:Option α) (y:α) (l:List α):wh p (y :: l) = wh (some y) l:=by
 unfold wh
 cases l with
 | nil=>rfl
 | cons z l=>simp [List.getLast?_cons]
def zi (x:α):∀ (l:List α) (p:Option α),ip p (l ++ [x]) = ip p l ++ (if wh p l = some x then [] else [x])
 | [],p=>by
  unfold wh;simp only [b42,ip,List.getLast?_nil];by_cases h:p = some x <;> simp [h]
 | y :: l,p=>by
  rw [ade];simp only [b43,ip];split
  · rename_i h
    rw [zi x l p,h]
  rw [zi x l (some y)];rfl
def ge [Inhabited α] {l:List α} {q:Nat} (h0:0 < q) (hq:q < l.length):jb (l.take (q + 1)) = jb (l.take q) ++ (if l.getD (q - 1) default = l.getD q default then [] else [l.getD q default]):=by
 unfold jb;rw [bf hq,zi];unfold wh;rw [akf h0 b5h];simp
def oi [Inhabited α] {l:List α}:∀ {k:Nat},k <= l.length -> (∀ j,0 < j -> j < k -> ¬ l.getD j default = l.getD (j - 1) default) -> jb (l.take k) = l.take k
 | 0,_,_=>rfl
 | 1,hk,_=>by
  rw [bf b5h];simp [jb,ip]
 | k + 2,hk,h=>by
  rw [ge b5h b5h,oi b5h (fun j h1 h2=>h j h1 b5h),if_neg (fun e=>h (k + 1) b5h b5h e.symm),<- bf b5h]
def a2m:∀ (l:List α) (p:Option α),∀ x ∈ ip p l,x ∈ l
 | [],_,x,h=>by simp [ip] at h
 | y :: l,p,x,h=>by
  simp only [ip] at h;split at h
  · exact b38 _ (a2m l p x h)
  rcases b2s.1 h with rfl | h
  · exact b3u
  exact b38 _ (a2m l _ x h)
def a2p:∀ (l:List α) (p:Option α),∀ x ∈ l,p = some x \/ x ∈ ip p l
 | y :: l,p,x,h=>by
  simp only [ip];split
  · rename_i hp
    rcases b2s.1 h with rfl | h
    · exact .inl hp
    exact a2p l p x h
  rcases b2s.1 h with rfl | h
  · exact .inr b3u
  rcases a2p l (some y) x h with h | h
  · simp only [b2g] at h
    subst h;exact .inr b3u
  exact .inr (b38 _ h)
def a2s {l:List α} {x:α}:x ∈ jb l <-> x ∈ l:=⟨a2m l none x,fun h=>by
 rcases a2p l none x h with h | h
 · cases h
 exact h⟩
end
section
variable [Inhabited α]
section
variable {l:List α}
def f4 {p:Nat} {v:α} (hp:p < l.length):(l.set p v).getD p default = v:=by simp [List.getD,hp]
def getD_set_ne' {p j:Nat} {v:α} (h:j ≠ p):(l.set p v).getD j default = l.getD j default:=by
 simp only [List.getD,List.getElem?_set_ne (Ne.symm h)]
variable {c:α -> Nat -> PV}
def aen {wr wr':Bool} {n p k:Nat} {e:TypeId} {v:α} {x:PV} (hw:wr' = true -> wr = true) (hn:n = l.length) (hp:k = p) (hk:p < l.length) (hx:x = c v 0):
 CoO (.arr wr 1 e n (da (lf c l) k 0 [x])) (.arr wr' 1 e n (lf c (l.set p v))):=by
 subst hp hx hn;refine ⟨hw,rfl,rfl,rfl,fun i j hi hj=>CoP.of_eq ?_⟩;obtain rfl:j = 0:=by omega
 unfold da lf;by_cases h:i = k
 · subst h
   rw [if_pos ⟨rfl,by omega,by simp⟩,f4 hk];rfl
 rw [if_neg b5h,getD_set_ne' h]
def aek {wr wr':Bool} {n p k q d:Nat} {e:TypeId} {l':List α} (hw:wr' = true -> wr = true) (hn:n = l.length) (hp:k = p) (hk:p < l.length) (hd:d = q):
 CoO (.arr wr 1 e n (da (lf c l) k 0 [lf c l' d 0])) (.arr wr' 1 e n (lf c (l.set p (l'.getD q default)))):=aen hw hn hp hk (by rw [hd];rfl)
def apo {n m a:Nat} {cl:Bool} {l':List α} {z:List Value} {p:Option Int} {h:Option Int} (hn:fu (bo n h) p = l'.length) (hp:p = none) (ha:l'.length <= a) (hl:l' = l.take l'.length):
 CoP (.sl (fu (bo n h) p) 1 cl (ns (nx (lf c l) a m z) p)) (psl 1 c l'):=by
 subst hp;refine CoP.sl hn.symm (.inl rfl) (fun h=>by cases h) fun i j hi hj=>CoP.of_eq ?_;rw [hn] at hi;show nx (lf c l) a m z i j = lf c l' i j;unfold nx;rw [if_neg b5h];simp only [lf,List.getD];have e:l'[i]? = l[i]?:=by rw [hl,b3d,if_pos hi]
 rw [e]
end
end
abbrev sC:AS -> Nat -> PV:=fun s _=>asC s
structure CpI (l:List AS) (k p q:Nat) (m:List AS):Prop where
 len:m.length = l.length
 kq:k < q
 pq:p < q
 ql:q <= l.length
 pre:m.take p = jb (l.take q)
 high:∀ j,q - 1 <= j -> m.getD j default = l.getD j default
theorem CpI.start {l:List AS} {k:Nat} (h1:1 <= k) (hk:k < l.length) (h:∀ j,0 < j -> j < k -> ¬ l.getD j default = l.getD (j - 1) default) (hd:l.getD k default = l.getD (k - 1) default):CpI l k k (k + 1) l :=
 ⟨rfl,by omega,by omega,by omega,by rw [ge b5h hk,if_pos hd.symm,b3i,oi b5h h],fun _ _=>rfl⟩
theorem CpI.skip {l:List AS} {k p q:Nat} {m:List AS} (h:CpI l k p q m) (hq:q < l.length) (he:m.getD q default = m.getD (q - 1) default):CpI l k p (q + 1) m:=by
 have hk:=h.kq;refine ⟨h.len,by omega,by have:=h.pq;omega,hq, ?_,fun j hj=>h.high j b5h⟩;rw [h.high q b5h,h.high (q - 1) b5h] at he;rw [ge b5h hq,if_pos he.symm,b3i,h.pre]
theorem CpI.keep {l:List AS} {k p q:Nat} {m:List AS} (h:CpI l k p q m) (hq:q < l.length) (he:¬ m.getD q default = m.getD (q - 1) default):CpI l k (p + 1) (q + 1) (m.set p (m.getD q default)):=by
 have hk:=h.kq;have hp:=h.pq;have hl:=h.len;refine ⟨by simp [hl],by omega,by omega,hq, ?_,fun j hj=>by rw [getD_set_ne' b5h];exact h.high j b5h⟩;have e:=h.high q b5h;rw [e,h.high (q - 1) b5h] at he;rw [ge b5h hq,if_neg (fun e=>he e.symm),<- h.pre,bf (by simp [hl];omega),f4 b5h,e];congr 1;rw [List.take_set,b58 b5v]
end
section
section
variable {α:Type} [Inhabited α] {p:α -> Bool} {l:List α}
def aiu:(decide (0 <= idx p l)) = l.any p:=by
 unfold idx
 cases hf:l.findIdx? p with
 | none =>
  rw [List.findIdx?_eq_none_iff] at hf
  have:l.any p = false:=by
   rw [b3x];intro x hx;rw [hf x hx];exact Bool.false_ne_true
  rw [this];rfl
 | some i =>
  obtain ⟨h1,h2,_⟩:=b4d.1 hf;have:l.any p = true:=b3g.2 ⟨l[i],b2q h1,h2⟩;rw [this];exact decide_eq_true (Int.natCast_nonneg i)
def a4g:∀ {k:Nat},k <= l.length -> (∀ j,j < k -> p (l.getD j default) = false) -> (l.take k).filter (fun x=>!p x) = l.take k
 | 0,_,_=>by simp
 | k + 1,hk,h=>by rw [bf b5h,List.filter_append,a4g b5h fun j hj=>h j b5h];simp only [b4m,h k b5h,Bool.not_false,if_true,List.filter_nil]
structure DfI (p:α -> Bool) (l:List α) (k q:Nat) (m:List α):Prop where
 len:m.length = l.length
 kq:k < q
 ql:q <= l.length
 pre:m.take k = (l.take q).filter fun x=>!p x
 high:∀ j,q <= j -> m.getD j default = l.getD j default
theorem DfI.start {k:Nat} (hk:k < l.length) (h1:p (l.getD k default) = true) (h:∀ j,j < k -> p (l.getD j default) = false):DfI p l k (k + 1) l :=
 ⟨rfl,by omega,hk,by rw [bf hk,List.filter_append,a4g b5h h];simp only [b4m,h1,Bool.not_true,List.filter_nil,b5b,if_false,b3i],fun _ _=>rfl⟩
theorem DfI.skip {k q:Nat} {m:List α} (h:DfI p l k q m) (hq:q < l.length) (hp:p (m.getD q default) = true):DfI p l k (q + 1) m:=by
 rw [h.high q (b2j _)] at hp;exact ⟨h.len,by have:=h.kq;omega,hq,by rw [bf hq,List.filter_append,<- h.pre];simp only [b4m,hp,Bool.not_true,List.filter_nil,b5b,if_false,b3i],fun j hj=>h.high j b5h⟩
theorem DfI.keep {k q:Nat} {m:List α} (h:DfI p l k q m) (hq:q < l.length) (hp:p (m.getD q default) = false):DfI p l (k + 1) (q + 1) (m.set k (m.getD q default)):=by
 have e:=h.high q (b2j _);rw [e] at hp ⊢;have hk:=h.kq;have hl:=h.len;refine ⟨by simp [hl],by omega,hq, ?_,fun j hj=>by rw [getD_set_ne' b5h];exact h.high j b5h⟩;rw [bf (by simp [hl];omega),f4 b5h,bf hq,List.filter_append,<- h.pre];simp only [b4m,hp,Bool.not_false,if_true,List.filter_nil];congr 1;rw [List.take_set,b58 b5v]
end
section
variable {p:AS -> Bool} {l:List AS}
end
instance:DecidableEq Fd:=fun a b=>decidable_of_iff (a.lhs = b.lhs /\ a.rhs = b.rhs) Fd.eq_iff.symm
end
end Go.Hx
