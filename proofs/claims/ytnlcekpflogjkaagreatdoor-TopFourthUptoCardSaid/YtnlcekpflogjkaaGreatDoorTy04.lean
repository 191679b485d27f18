/- A part of the proof: Hx5. -/
import Derived.Laws.BytesArg
import Derived.Laws.Runes
import Derived.Test.YtnlcekpflogjkaaGreatDoorTy03
set_option linter.all false
namespace Go.Hx
section
open Go.RowKit
def a8t (k:TK) (x y:HV):Option Bool :=
 match k,x,y with
 | .int _, .p (.raw (.int k a)), .p (.raw (.int k' b))=>match decide (k=k') with|true=>some (decide (a=b))|false=>none
 | .string, .p (.raw (.string a)), .p (.raw (.string b))=>some (decide (a=b))
 | .bool, .p (.raw (.bool a)), .p (.raw (.bool b))=>some (a==b)
 |_,_,_=>none
def ach(E:Env)(xs ys:List HV):List (Nat×TypeId×Bool)->Option Bool
 | []=>some true
 | (off,ft,bl)::r =>
  match bl,E ft,xs[off]?,ys[off]? with
  | false,some fi,some x,some y =>
   match a8t fi.k x y with
   |some b=>match r with|[]=>some b|_=>(ach E xs ys r).map fun b'=>b&&b'
   |none=>none
  |_,_,_,_=>none
def awg (E:Env) (t:TypeId) (xs ys:List HV):Option Bool :=
 match E t with
 | some i =>
  match i.k,i.stood,i.eqg with
  | .struct fs,false,false=>ach E xs ys fs
  |_,_,_=>none
 |none=>none
def a8x (E:Env) (ex:Bool) (e:Ev) (op:BinOp) (t:TypeId) (x y:Operand):Option Out :=
 match e x,e y with
 | some (.v (.one (.p (.raw u)))),some (.v (.one (.p (.raw v)))) =>
  match b3h E ex op t u v with
  |some (pre,r)=>some ⟨pre,bp (.raw r)⟩
  |none=>none
 | some (.v (.agg l)),some (.v (.agg l')) =>
  match op,awg E t l l' with
  | .eql,some b=>some ⟨True,bp (.raw (.bool b))⟩
  | .neq,some b=>some ⟨True,bp (.raw (.bool (!b)))⟩
  |_,_=>none
 |_,_=>none
def agi (ex:Bool) (e:Ev) (op:UnOp) (x:Operand):Option Out :=
 match op,e x with
 | .neg,some (.v (.one (.p (.raw (.int k n)))))=>some ⟨(k7 ex k (0-n)).1,bp (.raw (k7 ex k (0-n)).2)⟩
 | .xor,some (.v (.one (.p (.raw (.int k n)))))=>some ⟨True,bp (.raw (.int k (ct .xor k (if k.signed then -1 else k.max) n)))⟩
 | .not,some (.v (.one (.p (.raw (.bool b)))))=>some ⟨True,bp (.raw (.bool (!b)))⟩
 |_,_=>none
def alm:PV->Int
 | .raw (.int _ k)=>k
 |_=>0
def agv(n:Nat)(f:Nat->Nat->PV):ByteArray:=strOfNums ((List.range n).map fun i=>alm (f i 0))
def bka (E:Env):TK->Bool
 | .slice el=>match E el with|some ei=>(match ei.k with | .int .u8=>true|_=>false)|none=>false
 |_=>false
def a4j (E:Env) (ex:Bool) (e:Ev) (src dst:TypeId) (x:Operand):Option Out :=
 match E src,E dst,e x with
 | some _,some di,some (.v (.one (.p (.raw (.int _ n))))) =>
  match di.k with
  | .int k=>some ⟨(k7 ex k n).1,bp (.raw (k7 ex k n).2)⟩
  | .string=>some ⟨True,bp (.raw (.string (Utf8.encode n)))⟩
  |_=>none
 | some si,some di,some (.v (.one (.p (.sl n sz _ f)))) =>
  match di.k,bka E si.k with
  | .string,true=>some ⟨sz=1/\∀i,i<n->∃k,f i 0=.raw (.int .u8 k),bp (.raw (.string (agv n f)))⟩
  |_,_=>none
 | some _,some di,some (.v (.one (.p (.raw (.string b))))) =>
  match di.k with
  | .string=>some ⟨True,bp (.raw (.string b))⟩
  |_=>none
 |_,_,_=>none
def jd (e:Ev):Option Operand->Option (Option Int)
 |none=>some none
 |some y=>match e y with|some (.v (.one (.p (.raw (.int _ n)))))=>some (some n)|_=>none
def b7 (n:Nat):Option Int->Nat
 |none=>n
 |some h=>h.toNat
def dv (n:Nat):Option Int->Nat
 |none=>n
 |some l=>n-l.toNat
def nj (f:Nat->Nat->PV):Option Int->Nat->Nat->PV
 |none=>f
 |some l=>fun i j=>f (l.toNat+i) j
def apb (clip:Bool):Option Int->Option Int->Bool
 |some _,_=>true
 |none,none=>clip
 |none,some _=>false
def b2g (n:Nat) (lo hi mx:Option Int):Prop :=
 (match lo with|none=>True|some l=>0<=l/\l<=(b7 n hi:Nat))/\(match hi with|none=>True|some h=>0<=h/\h<=n)/\(match mx with|none=>True|some m=>hi=some m)
def m8(E:Env)(e:Ev)(t:TypeId)(x:Operand)(lo hi mx:Option Operand):Option Out :=
 match E t,e x,jd e lo,jd e hi,jd e mx with
 | some ti,some (.v (.one (.p (.raw (.string b))))),some l,some h,some none =>
  match ti.k with
  | .string=>some ⟨b2g b.size l h none,bp (.raw (.string (b.extract (b7 0 l) (b7 b.size h))))⟩
  |_=>none
 | some ti,some (.v (.one (.p (.sl n sz c f)))),some l,some h,some m =>
  match ti.k with
  | .slice el =>
   match E el with
   |some ei=>some ⟨ei.size=sz/\b2g n l h m,bp (.sl (dv (b7 n h) l) sz (apb c m h) (nj f l))⟩
   |none=>none
  |_=>none
 |_,_,_,_,_=>none
def bhu (n C:Nat) (l h m:Option Int):Prop :=
 (match l with|none=>True|some l=>0<=l/\l<=(b7 n h:Nat))/\(match h with|none=>True|some h=>0<=h/\h<=C)/\(match m with|none=>True|some mm=>(match h with|none=>False|some hv=>hv<=mm)/\mm<=C)
def y6 (size:Nat) (l h m:Option Int) (sz id n' n i k:Nat):Out :=
 ⟨n'=n/\size=sz/\bhu k (n-i) l h m,match m with|none=>.v (.one (.win id n (i+b7 0 l) (dv (b7 k h) l)))|some _=>bp .any⟩
def a0l (o:au) (size:Nat) (l h m:Option Int):HV->Option Out
 | .ref id n =>
  match o id with
  |some (.arr _ sz _ n' _)=>some (y6 size l h m sz id n' n 0 n)
  |some (.arrh sz _ n' _ _)=>some (y6 size l h m sz id n' n 0 n)
  |_=>none
 | .win id n i k =>
  match o id with
  |some (.arr _ sz _ n' _)=>some (y6 size l h m sz id n' n i k)
  |some (.arrh sz _ n' _ _)=>some (y6 size l h m sz id n' n i k)
  |_=>none
 |_=>none
def a98(E:Env)(o:au)(e:Ev)(t:TypeId)(x:Operand)(lo hi mx:Option Operand):Option Out :=
 match E t with
 | some ti =>
  match ti.k with
  | .slice el =>
   match E el with
   | some ei =>
    match jd e lo,jd e hi,jd e mx with
    | some l,some hh,some m =>
     match e x with
     |some (.v (.one h))=>a0l o ei.size l hh m h
     |_=>none
    |_,_,_=>none
   |none=>none
  |_=>none
 |none=>none
def ce(b:ByteArray)(i:Nat):Int:=((b.data.toList.getD i 0).toNat:Int)
def yx (E:Env) (e:Ev) (t:TypeId) (x ix:Operand):Option Out :=
 match E t,e x,e ix with
 | some ti,some (.v (.one (.p (.raw (.string b))))),some (.v (.one (.p (.raw (.int _ i))))) =>
  match ti.k with
  | .string=>some ⟨0<=i/\i<b.size,bp (.raw (.int .u8 (ce b i.toNat)))⟩
  |_=>none
 |_,_,_=>none
def uo (e:Ev) (x:Operand) (i:Nat):Option Out :=
 match e x with
 |some (.tup l)=>match l[i]? with|some c=>some ⟨True, .v c⟩|none=>none
 |_=>none
def up(E:Env)(e:Ev)(b:Builtin)(args:List Operand)(tys:List TypeId):Option Out :=
 match b,args,tys with
 | .len,[x],t::_ =>
  match E t with
  | some ti =>
   match ti.k,e x with
   | .string,some (.v (.one (.p (.raw (.string b)))))=>some ⟨True,bp (.raw (.int .i64 b.size))⟩
   | .slice _,some (.v (.one (.p (.sl n _ _ _))))=>some ⟨True,bp (.raw (.int .i64 n))⟩
   |_,_=>none
  |none=>none
 | .min,[x,y],_ =>
  match e x,e y with
  |some (.v (.one (.p (.raw (.int k a))))),some (.v (.one (.p (.raw (.int _ b)))))=>some ⟨True,bp (.raw (.int k (if b<a then b else a)))⟩
  |_,_=>none
 | .max,[x,y],_ =>
  match e x,e y with
  |some (.v (.one (.p (.raw (.int k a))))),some (.v (.one (.p (.raw (.int _ b)))))=>some ⟨True,bp (.raw (.int k (if a<b then b else a)))⟩
  |_,_=>none
 |_,_,_=>none
def a8e (o:au):HV->Option Out
 | .ref id n =>
  match o id with
  |some (.arr _ _ _ n' _)=>some ⟨n'=n,bp (.raw (.int .i64 n))⟩
  |some (.arrh _ _ n' _ _)=>some ⟨n'=n,bp (.raw (.int .i64 n))⟩
  |some (.nest _ _ _ n' _ _ none)=>some ⟨n'=n,bp (.raw (.int .i64 n))⟩
  |_=>none
 | .row id i k =>
  match o id with
  |some (.nest _ _ _ n m _ _)=>some ⟨i<n/\m i=k,bp (.raw (.int .i64 k))⟩
  |_=>none
 | .win id n _ m =>
  match o id with
  |some (.arr _ _ _ n' _)=>some ⟨n'=n,bp (.raw (.int .i64 m))⟩
  |some (.arrh _ _ n' _ _)=>some ⟨n'=n,bp (.raw (.int .i64 m))⟩
  |_=>none
 |_=>none
def vt(E:Env)(o:au)(e:Ev)(b:Builtin)(args:List Operand)(tys:List TypeId):Option Out :=
 match b,args,tys with
 | .len,[x],t::_ =>
  match E t with
  | some ti =>
   match ti.k with
   | .slice _ =>
    match e x with
    |some (.v (.one h))=>a8e o h
    |_=>none
   |_=>none
  |none=>none
 |_,_,_=>none
def bsn:HV->Option PV
 | .p x=>some x
 |_=>none
def a1p (e:Ev):List Operand->Option (List PV)
 | []=>some []
 | x::r =>
  match e x,a1p e r with
  |some (.v (.one (.p y))),some l=>some (y::l)
  |_,_=>none
def a12 (e:Ev):List Operand->Option (List HV)
 | []=>some []
 | x::r =>
  match e x,a12 e r with
  |some (.v (.one y)),some l=>some (y::l)
  |_,_=>none
def l5:List HV->Option (List PV)
 | []=>some []
 | .p x::r=>match l5 r with|some l=>some (x::l)|none=>none
 |_::_=>none
def a2z (e:Ev) (fn:Fn) (first caps:List Operand):Option Out :=
 match fn,first with
 | .func f,[] =>
  match a1p e caps with
  |some l=>some ⟨True,bp (.fn f l.length fun i=>l.getD i .any)⟩
  |none=>match a12 e caps with|some l=>some ⟨True, .v (.one (.clo f l.length fun i=>l.getD i (.p .any)))⟩|none=>none
 | .func f,[x] =>
  match caps,e x with
  | [],some (.v (.agg hs))=>match l5 hs with|some l=>some ⟨True,bp (.bnd f l.length fun i=>l.getD i .any)⟩|none=>none
  |_,_=>none
 |_,_=>none
def tk (o:au) (e:Ev) (x:Operand):Option Out :=
 match e x with
 |some (.v (.one (.p (.fn g k c))))=>some ⟨True,bp (.fn g k c)⟩
 |some (.v (.one (.clo g k c)))=>some ⟨True, .v (.one (.clo g k c))⟩
 |some (.v (.one h))=>match tgt o h with|some (p,_,_)=>some ⟨p, .v (.one h)⟩|none=>none
 |_=>none
def b97 (b:Bool):Option HR->Option HR->Option Out
 |some (.v (.one (.p (.raw (.bool x))))),some (.v (.one (.p (.raw (.bool y)))))=>some ⟨True,bp (.raw (.bool (bif b then x else y)))⟩
 |some x,none=>some ⟨b=true,x⟩
 |some x,some (.tup [])=>some ⟨b=true,x⟩
 |none,some y=>some ⟨b=false,y⟩
 |some (.tup []),some y=>some ⟨b=false,y⟩
 |some x,some y=>match b with|true=>some ⟨True,x⟩|false=>some ⟨True,y⟩
 |none,none=>none
def a43 (e:Ev) (c x y:Operand):Option Out :=
 match e c with
 |some (.v (.one (.p (.raw (.bool b)))))=>b97 b (e x) (e y)
 |_=>none
def aqd (op:BinOp) (n:Nat):Option Out :=
 match op with
 | .eql=>some ⟨0<n,bp (.raw (.bool false))⟩
 | .neq=>some ⟨0<n,bp (.raw (.bool true))⟩
 |_=>none
def a3q (op:BinOp) (ad:Option Addr):Option Out :=
 match op with
 | .eql=>some ⟨True,bp (.raw (.bool ad.isNone))⟩
 | .neq=>some ⟨True,bp (.raw (.bool (!ad.isNone)))⟩
 |_=>none
def wq(E:Env)(e:Ev)(op:BinOp)(t:TypeId)(x y:Operand):Option Out :=
 match y with
 | .const (.slice none 0 0) =>
  match E t with
  | some i =>
   match i.k with
   | .slice _ =>
    match e x with
    |some (.v (.one (.p (.sl n _ _ _))))=>aqd op n
    |some (.v (.one (.p (.raw (.slice ad _ _)))))=>a3q op ad
    |_=>none
   |_=>none
  |none=>none
 |_=>none
def aei (op:BinOp) (b:Bool):Option Out :=
 match op with
 | .eql=>some ⟨True,bp (.raw (.bool b))⟩
 | .neq=>some ⟨True,bp (.raw (.bool (!b)))⟩
 |_=>none
def a3n (o:au) (op:BinOp):HV->Option Out
 | .ptr id _=>match o id with|some (.box _)=>aei op false|_=>none
 | .p (.raw (.pointer p))=>aei op p.isNone
 |_=>none
def l8(E:Env)(o:au)(e:Ev)(op:BinOp)(t:TypeId)(x y:Operand):Option Out :=
 match y with
 | .const (.pointer none) =>
  match E t with
  | some i =>
   match i.k with
   | .pointer _ =>
    match e x with
    |some (.v (.one h))=>a3n o op h
    |_=>none
   |_=>none
  |none=>none
 |_=>none
def a0w (E:Env):List (Nat×TypeId×Bool)->Option (List (Nat×Nat))
 | []=>some []
 | (off,ft,_)::r =>
  match E ft,a0w E r with
  |some fi,some l=>some ((off,fi.size)::l)
  |_,_=>none
def HC.cells:HC->List HV
 | .one h=>[h]
 | .agg l=>l
def bo(l:List HV)(off:Nat)(new:List HV):List HV:=l.take off++new++l.drop (off+new.length)
def it(e:Ev)(places:List (Nat×Nat))(cells:List HV):List (Nat×Operand)->Option (List HV)
 | []=>some cells
 | (i,x)::r =>
  match places[i]?,e x with
  | some (off,size),some (.v c) =>
   match decide (c.cells.length=size),decide (off+size<=cells.length) with
   |true,true=>it e places (bo cells off c.cells) r
   |_,_=>none
  |_,_=>none
def zg(E:Env)(e:Ev)(t:TypeId)(parts:List (Nat×Operand)):Option Out :=
 match E t with
 | some i =>
  match i.k,i.zero with
  | .struct fs,some z =>
   match a0w E fs,qg z with
   | some places,true =>
    match it e places (z.map fun c=>.p (lp c)) parts with
    |some l=>some ⟨True, .v (.agg l)⟩
    |none=>none
   |_,_=>none
  | .array n el,some z =>
   match E el,qg z with
   | some ie,true =>
    match it e ((List.range n).map fun k=>(k*ie.size,ie.size)) (z.map fun c=>.p (lp c)) parts with
    |some l=>some ⟨True, .v (.agg l)⟩
    |none=>none
   |_,_=>none
  |_,_=>none
 |none=>none
def ade:TK->Option KK
 | .int q=>some (.int q)
 | .string=>some .str
 |_=>none
def b7v{k:TK}{kk:KK}(h:ade k=some kk)(b:Nat):kk.has b:=by cases k<;>simp[ade]at h<;>subst h<;>trivial
def awq:Value->Option MK
 | .int q n=>some (.i q n)
 | .string b=>some (.s b)
 |_=>none
def aol {v:Value} {m:MK} (h:awq v=some m):m.val=v:=by
 cases v<;>simp[awq]at h<;>subst h<;>rfl
def a51(f:MK->Option PV)(m:MK)(z:Value):PV:=match f m with|some y=>y|none=>lp z
def a6t(f:MK->Option PV)(m:MK):Bool:=match f m with|some _=>true|none=>false
def xk(has:MK->Bool)(f:MK->PV)(m:MK)(z:Value):PV:=match has m with|true=>f m|false=>lp z
def ads(o:au)(kk:KK)(m:MK)(z:Value)(cm:Bool):HV->Option Out
 | .p (.mp kk' _ has f) =>
  match cm with
  |true=>some ⟨kk'=kk/\MK.ok kk m, .tup [.one (.p (xk has f m z)), .one (.p (.raw (.bool (has m))))]⟩
  |false=>some ⟨kk'=kk/\MK.ok kk m, .v (.one (.p (xk has f m z)))⟩
 | .ref id _ =>
  match o id with
  | some (.mp kk' _ f) =>
   match cm with
   |true=>some ⟨kk'=kk/\MK.ok kk m, .tup [.one (.p (a51 f m z)), .one (.p (.raw (.bool (a6t f m))))]⟩
   |false=>some ⟨kk'=kk/\MK.ok kk m, .v (.one (.p (a51 f m z)))⟩
  |_=>none
 |_=>none
def alh (E:Env) (kt et:TypeId):Option (KK×Value) :=
 match E kt,E et with
 | some ki,some ei =>
  match ade ki.k,ei.zero,ei.zone with
  |some kk,some [z],true=>some (kk,z)
  |_,_,_=>none
 |_,_=>none
def li(E:Env)(o:au)(e:Ev)(t:TypeId)(x ix:Operand)(cm:Bool):Option Out :=
 match E t with
 | some i =>
  match i.k with
  | .map kt et =>
   match alh E kt et with
   | some (kk,z) =>
    match e ix with
    | some (.v (.one (.p (.raw kv)))) =>
     match awq kv with
     | some m =>
      match e x with
      |some (.v (.one h))=>ads o kk m z cm h
      |_=>none
     |none=>none
    |_=>none
   |none=>none
  |_=>none
 |none=>none
def hq (E:Env) (ex:Bool) (o:au) (e:Ev):Op->Option Out
 | .move x=>(e x).map fun r=>⟨True,r⟩
 | .assign x=>(e x).map fun r=>⟨True,r⟩
 | .pick c x y=>a43 e c x y
 | .nilCheck x=>tk o e x
 | .load t x=>nn E o e t x
 | .fieldAddr t x k=>gn E o e t x k
 | .field t x k=>zb E e t x k
 | .indexAddr t x i=>gz E o e t x i
 | .index t x i=>yx E e t x i
 | .lookup t x i cm=>li E o e t x i cm
 | .binOp op t x y _=>match wq E e op t x y with|some r=>some r|none=>match l8 E o e op t x y with|some r=>some r|none=>a8x E ex e op t x y
 | .unOp op _ x=>agi ex e op x
 | .convert s d x=>a4j E ex e s d x
 | .extract x i=>uo e x i
 | .slice t x lo hi mx=>match m8 E e t x lo hi mx with|some r=>some r|none=>a98 E o e t x lo hi mx
 | .makeFunc fn first caps=>a2z e fn first.toList caps.toList
 | .build t parts=>zg E e t parts.toList
 | .call c =>
  match c.callee with
  | .builtin b=>match up E e b c.args.toList c.argTypes.toList with|some r=>some r|none=>vt E o e b c.args.toList c.argTypes.toList
  |_=>none
 |_=>none
section
variable {P:Program}{E:Env}{w0:World}{nt:Nat}{c:Ctx}{s:S}{a:Act}{w:World}
def e9{c:Ctx}{o:au}{v:Value}(h:v.oneCell'=true):ar c o (bp (.raw v)) v:=⟨rfl,h⟩
section
variable {t:TypeId}
def ar9(hE:d7 P E){fi:TI}(hi:E t=some fi){x y:HV}{b:Bool}(hl:a8t fi.k x y=some b){o:au}{u v:Value}(hu:bj c o x u)(hv:bj c o y v)(d:Nat)(w:World):
 (Op.equalIn (d+1) t u v).run P w=.ok b w:=by
 obtain⟨ii,dd,h1,h2,h3,_⟩:=b5 (hE t fi hi);unfold a8t at hl;split at hl<;>try(cases hl;done)
 · rename_i hk
   split at hl<;>try(cases hl;done)
   rename_i hkk;have hkk:=of_decide_eq_true hkk;subst hkk;simp only[bst]at hl;subst hl;obtain⟨rfl,_⟩:=hu;obtain⟨rfl,_⟩:=hv;have:∃k',dd=.int k':=by cases dd<;>simp_all [iz]
   obtain⟨k',rfl⟩:=this;rw[run_equalIn_int w d t _ k' _ _ h2];congr 1
 · rename_i hk
   simp only[bst]at hl;subst hl;obtain⟨rfl,_⟩:=hu;obtain⟨rfl,_⟩:=hv;have:dd=.string:=by cases dd<;>simp_all [iz]
   subst this;rw[run_equalIn_string w d t _ _ h2,zm]
 rename_i hk;simp only[bst]at hl;subst hl;obtain⟨rfl,_⟩:=hu;obtain⟨rfl,_⟩:=hv;have:dd=.bool:=by cases dd<;>simp_all [iz]
 subst this;exact run_equalIn_bool w d t _ _ h2
def as6 {k:TK} {x y:HV} {b:Bool} (h:a8t k x y=some b):k.isAgg=false:=by
 cases k<;>simp_all [a8t,TK.isAgg]
theorem afy (hE:d7 P E) {o:au} {xs ys:List HV} {us vs:List Value} (hx:bf c o xs us) (hy:bf c o ys vs) (d:Nat) (w:World) :
 ∀ (fs : List Field) (b : Bool), ach E xs ys (fs.map fun f => (f.offset, f.type, f.name == "_")) = some b -> (Op.eqFields (d + 1) us.toArray vs.toArray fs).run P w = .ok b w
 | [],b,h=>by simp[ach]at h;subst h;simp[Op.eqFields]
 | f :: fs,b,h=>by
  simp only[buf,ach]at h;split at h<;>try(cases h;done)
  rename_i fi x y hbl hfi hxo hyo;have hname : f.name ≠ "_" := by simpa using hbl
  split at h<;>try(cases h;done)
  rename_i bb hleaf;obtain⟨u,hu,hru⟩:=hx.get _ _ hxo;obtain⟨v,hv,hrv⟩:=hy.get _ _ hyo;have hag:=as6 hleaf;obtain⟨mu,pu⟩:=xg (P:=P) (hE _ _ hfi) us f.offset w;obtain⟨mv,pv⟩:=xg (P:=P) (hE _ _ hfi) vs f.offset w;rw[hag,hu]at pu;rw[hag,hv]at pv;have he:=ar9 hE hfi hleaf hru hrv d w
  have key : ∀ bb', (match fs.map (fun f => (f.offset, f.type, f.name == "_")) with | [] => some bb | _ => (ach E xs ys (fs.map fun f => (f.offset, f.type, f.name == "_"))).map fun b' => bb && b') = some bb' ->
   (Op.eqFields (d+1) us.toArray vs.toArray (f::fs)).run P w=.ok bb' w:=by
   intro bb' hb;simp only[Op.eqFields,ne_eq,hname,not_false_eq_true,if_true,bu3,pu,pv,buv,if_false,bth,he,Sem.run_ite,buh];split at hb
   · rename_i hnil
     simp only[List.map_eq_nil_iff]at hnil;subst hnil;simp only[bst]at hb;subst hb;cases bb<;>simp[Op.eqFields]
   cases hr : ach E xs ys (fs.map fun f => (f.offset, f.type, f.name == "_")) with
   |none=>rw[hr]at hb;cases hb
   | some b' =>
    rw[hr]at hb;simp only[btr,bst]at hb;subst hb;have ih:=afy hE hx hy d w fs b' hr
    grind
  exact key b h
variable {ex:Bool}{out:Out}{x:Operand}
def ari(hE:d7 P E)(h:ah w0 nt c s a w){op:BinOp}{y:Operand}(hq:a8x E ex (ev s) op t x y=some out)(hp:out.pre):
 ∃v,(do eqGuard op t x y (a.eval x) (a.eval y);binOp op t (a.eval x) (a.eval y):Sem Value).run P w=.ok v w/\ar c s.o out.val v:=by
 unfold a8x at hq;split at hq<;>try(cases hq;done)
 · rename_i u v hx hy
   split at hq<;>try(cases hq;done)
   rename_i pre r hb;simp only[bst]at hq;subst hq;obtain⟨e1,_⟩:=af h hx;obtain⟨e2,_⟩:=af h hy;rw[e1,e2];obtain⟨h1,h2⟩:=axf (x:=x) (y:=y) hE hb hp w;exact⟨r,h1,e9 h2⟩
 rename_i l l' hx hy;obtain⟨us,e1,r1⟩:=af h hx;obtain⟨vs,e2,r2⟩:=af h hy
 have core:∀b,awg E t l l'=some b->(eqGuard op t x y (.agg us.toArray) (.agg vs.toArray)).run P w=.ok () w/\(Op.equalIn 10000 t (.agg us.toArray) (.agg vs.toArray)).run P w=.ok b w:=by
  intro b hb;unfold awg at hb;split at hb<;>try(cases hb;done)
  rename_i i hi;split at hb<;>try(cases hb;done)
  rename_i fs hk hst heg;obtain⟨ii,d,h1,h2,h3,h4,h5,h6,h7,h8⟩:=b5 (hE t i hi);obtain⟨fa,rfl,hfa⟩:=xh (h3.symm.trans hk);rw[hst]at h7;rw[heg]at h8;refine⟨run_eqGuard_agg w op t x y _ _ h8.symm, ?_⟩;have hfo:P.fieldsOf t=fa:=by simp[Program.fieldsOf,h2]
  rw[run_equalIn_struct w 9999 t _ _ (by rw[hfo];exact h2) h7.symm,hfo];rw[hfa]at hb;exact afy hE r1 r2 9998 w fa.toList b hb
 rw[e1,e2];split at hq<;>try(cases hq;done)
 · rename_i b hb
   simp only[bst]at hq;subst hq;obtain⟨g1,g2⟩:=core b hb;refine⟨.bool b, ?_,e9 rfl⟩;rw[bu3,g1,bth,run_eql_struct,g2,bth]
 rename_i b hb;simp only[bst]at hq;subst hq;obtain⟨g1,g2⟩:=core b hb;refine⟨.bool (!b), ?_,e9 rfl⟩;rw[bu3,g1,bth,run_neq_struct,g2,bth]
def x5 {k:IntKind} {n:Int} (hp:(k7 ex k n).1):(k7 ex k n).2=.int k (k.wrap n):=by
 cases ex
 · rfl
 simp only[k7]at hp ⊢;rw[tz hp]
def axi(h:ah w0 nt c s a w){op:UnOp}(hq:agi ex (ev s) op x=some out)(hp:out.pre):
 ∃v,(Op.unary op (a.eval x)).run P w=.ok v w/\ar c s.o out.val v:=by
 unfold agi at hq;split at hq<;>try(cases hq;done)
 · rename_i k n hx
   simp only[bst]at hq;subst hq;obtain⟨e1,_⟩:=af h hx;rw[e1];refine⟨_, ?_,e9 (by rw[x5 hp];rfl)⟩;rw[x5 hp];simp[Op.unary,Op.intArith]
 · rename_i k n hx
   simp only[bst]at hq;subst hq;obtain⟨e1,_⟩:=af h hx;rw[e1];exact⟨_,by simp[Op.unary,Op.intBits,ct],e9 rfl⟩
 rename_i b hx;simp only[bst]at hq;subst hq;obtain⟨e1,_⟩:=af h hx;rw[e1];exact⟨_,by simp[Op.unary],e9 rfl⟩
def an5(hE:d7 P E)(h:ah w0 nt c s a w){src dst:TypeId}(hq:a4j E ex (ev s) src dst x=some out)(hp:out.pre):
 ∃v,(convert src dst (a.eval x)).run P w=.ok v w/\ar c s.o out.val v:=by
 unfold a4j at hq;split at hq<;>try(cases hq;done)
 · rename_i si di k n hs hd hx
   obtain⟨e1,_⟩:=af h hx;rw[e1];obtain⟨ii,d,h1,h2,h3,_⟩:=b5 (hE dst di hd);obtain⟨ii',d',h1',h2',h3',_⟩:=b5 (hE src si hs);split at hq<;>try(cases hq;done)
   · rename_i k' hk
     simp only[bst]at hq;subst hq;have:d=.int k':=by cases d<;>simp_all [iz]
     subst this;refine⟨_, ?_,e9 (by rw[x5 hp];rfl)⟩;rw[x5 hp];simp[convert,run_underlying h2,run_underlying h2',Conv.intToInt]
   rename_i hk;simp only[bst]at hq;subst hq;have:d=.string:=by cases d<;>simp_all [iz]
   subst this;exact⟨_,run_convert_int_string w src dst k n (by rw[h2'];rfl) h2,e9 rfl⟩
 · rename_i si di n sz cl f hs hd hx
   split at hq<;>try(cases hq;done)
   rename_i hk hu;simp only[bst]at hq;subst hq;obtain⟨rfl,hp⟩:=hp;obtain⟨ii,d,h1,h2,h3,_⟩:=b5 (hE dst di hd);obtain⟨ii',d',h1',h2',h3',_⟩:=b5 (hE src si hs);have:d=.string:=by cases d<;>simp_all [iz]
   subst this;unfold bka at hu;split at hu<;>try(cases hu;done)
   rename_i el hel;split at hu<;>try(cases hu;done)
   rename_i ei hei;split at hu<;>try(cases hu;done)
   rename_i hek;obtain⟨ii2,d2,h12,h22,h32,_⟩:=b5 (hE el ei hei);have:d'=.slice el:=by cases d'<;>simp_all [iz]
   subst this;have:d2=.int .u8:=by cases d2<;>simp_all [iz]
   subst this;obtain⟨ad,cap,e1,_,_,_,e5⟩:=af h hx;rw[e1];by_cases hn:n=0
   · subst hn
     cases ad with
     |none=>exact⟨_,run_convert_bytes_nil w src el h2' h22 0 cap dst h2,e9 rfl⟩
     | some ad =>
      refine⟨_, ?_,e9 rfl⟩;rw[run_convert_bytes_string w src dst el _ 0 cap h2' h22 h2];have hl:(loadCells ad 0).run P w=.ok #[] w:=run_loadCells_list (P:=P) w ad [] (fun j v hj=>by simp at hj);have:=run_bytesToString (P:=P) w ad 0 cap [] (by simpa using hl);rw[this];rfl
   obtain⟨b,off,rfl,hc⟩:=e5 bww;refine⟨_,run_convert_bytes_arg w src el h2' h22 b off n cap ((List.range n).map fun i=>alm (f i 0)) bx0 (fun i hi=>?_) dst h2,e9 rfl⟩;obtain⟨x,hx,hr⟩:=hc i 0 hi bww;obtain⟨k,hk⟩:=hp i hi;rw[hk]at hr;have hx':=xc h hx;rw[bvs,bur]at hx';rw[hx',hr.1];simp[List.getD,btf,bu8 hi,hk,alm]
 rename_i si di b hs hd hx;split at hq<;>try(cases hq;done)
 rename_i hk;simp only[bst]at hq;subst hq;obtain⟨e1,_⟩:=af h hx;rw[e1];obtain⟨ii,d,h1,h2,h3,_⟩:=b5 (hE dst di hd);obtain⟨ii',d',h1',h2',h3',_⟩:=b5 (hE src si hs);have:d=.string:=by cases d<;>simp_all [iz]
 subst this;exact⟨_,by simp[convert,run_underlying h2,run_underlying h2'],e9 rfl⟩
def j4 (h:ah w0 nt c s a w) {x:Option Operand} {r:Option Int} (hx:jd (ev s) x=some r) :
 (r=none/\x.map a.eval=none)\/∃k n,r=some n/\x.map a.eval=some (.int k n):=by
 cases x with
 |none=>simp[jd]at hx;exact .inl ⟨hx.symm,rfl⟩
 | some y =>
  simp only[jd]at hx;split at hx<;>try(cases hx;done)
  rename_i k n hy;simp only[bst]at hx;obtain⟨e1,_⟩:=af h hy;exact .inr ⟨k,n,hx.symm,by simp[e1]⟩
def bz (w:World) (k:IntKind) (n:Int) (y:Nat) (cd:BoundsCode) (h:0<=n/\n<=y):(Instr.sliceBound (.int k n) y cd).run P w=.ok n.toNat w:=by
 simp[Instr.sliceBound,asIntOf,h]
variable {hi lo mx:Option Operand}
def a68(hE:d7 P E)(h:ah w0 nt c s a w)(hq:m8 E (ev s) t x lo hi mx=some out)(hp:out.pre):
 ∃v,(Instr.sliceAt t (a.eval x) (lo.map a.eval) (hi.map a.eval) (mx.map a.eval)).run P w=.ok v w/\ar c s.o out.val v:=by
 unfold m8 at hq;split at hq<;>try(cases hq;done)
 · rename_i ti b l hh hti hx hl hhi hm
   split at hq<;>try(cases hq;done)
   rename_i hk;simp only[bst]at hq;subst hq;obtain⟨p1,p2,_⟩:=hp;obtain⟨e1,_⟩:=af h hx;obtain⟨ii,d,h1,h2,h3,_⟩:=b5 (hE t ti hti);have:d=.string:=by cases d<;>simp_all [iz]
   subst this
   have hm':mx.map a.eval=none:=by
    rcases j4 h hm with⟨_,e⟩|⟨k,n,e,_⟩
    · exact e
    cases e
   rw[e1,hm'];refine⟨.string (b.extract (b7 0 l) (b7 b.size hh)), ?_,e9 rfl⟩
   rcases j4 h hl with⟨rfl,el⟩|⟨kl,nl,rfl,el⟩<;>rcases j4 h hhi with⟨rfl,eh⟩|⟨kh,nh,rfl,eh⟩<;>rw[el,eh] <;>
    simp only[b7]at p1 p2 ⊢
   · simp[Instr.sliceAt,run_underlying h2,Instr.slice,Instr.sliceBounds]
   · simp[Instr.sliceAt,run_underlying h2,Instr.slice,Instr.sliceBounds,bz w kh nh b.size _ p2]
   · simp[Instr.sliceAt,run_underlying h2,Instr.slice,Instr.sliceBounds,bz w kl nl b.size _ p1]
   have p1':0<=nl/\nl<=(nh.toNat:Nat):=p1;simp[Instr.sliceAt,run_underlying h2,Instr.slice,Instr.sliceBounds,bz w kh nh b.size _ p2,bz w kl nl nh.toNat _ p1']
 rename_i ti n sz cl f l hh m hti hx hl hhi hm;split at hq<;>try(cases hq;done)
 rename_i el hk;split at hq<;>try(cases hq;done)
 rename_i ei hei;simp only[bst]at hq;subst hq;obtain⟨hs,p1,p2,p3⟩:=hp;obtain⟨ad,cap,e1,hcap,hmax,hclip,hc⟩:=af h hx;obtain⟨ii,d,h1,h2,h3,_⟩:=b5 (hE t ti hti);obtain rfl:=eo (h3.symm.trans hk);have hsz:=ef (hE el ei hei) w;rw[e1]
 have fin:∀(L H M:Nat),L<=H->H<=n->H<=M->M<=cap->dv (b7 n hh) l=H-L->(∀i j,nj f l i j=f (L+i) j)->(apb cl m hh=true->M=H) ->
  ar c s.o (bp (.sl (dv (b7 n hh) l) sz (apb cl m hh) (nj f l))) (.slice (if M=L then ad else ad.map (·.add (L*ei.size))) (H-L) (M-L)):=by
  intro L H M h1 h2 h3 h4 hn hf hcl;refine⟨_,M-L,by rw[hn],by omega,by omega,fun h=>by have:=hcl h;omega,fun hpos=>?_⟩;rw[hn]at hpos;rw[if_neg bww];obtain⟨b,off,rfl,hcell⟩:=hc bww;refine⟨b,off+L*ei.size,by simp[dm],fun i j hi hj=>?_⟩;obtain⟨u,hu,hr⟩:=hcell (L+i) j bww hj;refine⟨u, ?_,by rw[hf];exact hr⟩;rw[hs,bv5 off,<- bv5 (L*sz),<- bu6];exact hu
 have hM:∀(k:IntKind) (mm:Int),m=some mm->∃hv,hh=some hv/\mm=hv:=fun k mm e=>by
  subst e;exact⟨mm,p3,rfl⟩
 rcases j4 h hl with⟨rfl,eel⟩|⟨kl,nl,rfl,eel⟩<;>rcases j4 h hhi with⟨rfl,eh⟩|⟨kh,nh,rfl,eh⟩ <;>
  rcases j4 h hm with⟨rfl,em⟩|⟨km,nm,rfl,em⟩<;>rw[eel,eh,em]<;>simp only[b7]at p1 p2 p3
 · refine ⟨_, ?_,fin 0 n cap (bsx _) (bsw _) hcap (bsw _) rfl (fun i j=>by simp[nj]) (fun h=>hclip h)⟩
   simp[Instr.sliceAt,run_underlying h2,Instr.slice,Instr.sliceBounds,hsz]
 · cases p3
 · refine ⟨_, ?_,fin 0 nh.toNat cap (bsx _) bww bww (bsw _) rfl (fun i j=>by simp[nj]) (fun h=>by cases h)⟩
   have q2:0<=nh/\nh<=(cap:Nat):=by omega
   simp[Instr.sliceAt,run_underlying h2,Instr.slice,Instr.sliceBounds,hsz,bz w kh nh cap _ q2]
 · simp only [bst]at p3
   subst p3;refine⟨_, ?_,fin 0 nh.toNat nh.toNat (bsx _) bww bww bww rfl (fun i j=>by simp[nj]) (fun _=>rfl)⟩;have q2:0<=nh/\nh<=(cap:Nat):=by omega
   have q3:0<=nh/\nh<=(nh.toNat:Nat):=by omega
   simp[Instr.sliceAt,run_underlying h2,Instr.slice,Instr.sliceBounds,hsz,bz w km nh cap _ q2,bz w kh nh nh.toNat _ q3]
 · refine ⟨_, ?_,fin nl.toNat n cap bww (bsw _) hcap (bsw _) rfl (fun i j=>rfl) (fun h=>hclip h)⟩
   have q1:0<=nl/\nl<=(n:Nat):=p1;simp[Instr.sliceAt,run_underlying h2,Instr.slice,Instr.sliceBounds,hsz,bz w kl nl n _ q1]
 · cases p3
 · refine ⟨_, ?_,fin nl.toNat nh.toNat cap bww bww bww (bsw _) rfl (fun i j=>rfl) (fun h=>by cases h)⟩
   have q2:0<=nh/\nh<=(cap:Nat):=by omega
   have q1:0<=nl/\nl<=(nh.toNat:Nat):=by omega
   simp[Instr.sliceAt,run_underlying h2,Instr.slice,Instr.sliceBounds,hsz,bz w kh nh cap _ q2,bz w kl nl nh.toNat _ q1]
 simp only[bst]at p3;subst p3;refine⟨_, ?_,fin nl.toNat nh.toNat nh.toNat bww bww bww bww rfl (fun i j=>rfl) (fun _=>rfl)⟩;have q2:0<=nh/\nh<=(cap:Nat):=by omega
 have q3:0<=nh/\nh<=(nh.toNat:Nat):=by omega
 have q1:0<=nl/\nl<=(nh.toNat:Nat):=by omega
 simp[Instr.sliceAt,run_underlying h2,Instr.slice,Instr.sliceBounds,hsz,bz w km nh cap _ q2,bz w kh nh nh.toNat _ q3,bz w kl nl nh.toNat _ q1]
theorem amj (a:Addr) (x y:Nat):(a.add x).add y=a.add (x+y):=by
 unfold Addr.add
 grind
def pg(a:Addr):a.add 0=a:=by unfold Addr.add;simp
def akk(h:ah w0 nt c s a w){el:TypeId}{sz:Nat}(h2:P.underlying t=some (.slice el))(hsz:(sizeOf el).run P w=.ok sz w){l hh m:Option Int}(hl:jd (ev s) lo=some l)(hhi:jd (ev s) hi=some hh)(hm:jd (ev s) mx=some m){id n i k cap:Nat}{ad ad':Option Addr}{ob:a7}{e:TypeId}(ho:s.o id=some ob)(hd:ob.dim=some (sz,e,n))(hown:c.own id=.slice ad n cap)(h5:i+k<=n)(h6:n<=cap)(h7:cap<=maxLen)(h8:i<cap->ad'=ad.map (·.add (i*sz)))(hp:bhu k (n-i) l hh m):
 ∃v,(Instr.sliceAt t (.slice ad' k (cap-i)) (lo.map a.eval) (hi.map a.eval) (mx.map a.eval)).run P w=.ok v w/\ar c s.o (y6 sz l hh m sz id n n i k).val v:=by
 have hbox:∀l,s.o id≠some (.box l):=fun l hb=>by
  rw[ho]at hb;simp only[bst]at hb;subst hb;cases hd
 have fin:∀(L H:Nat),L<=H->H<=n-i->b7 0 l=L->dv (b7 k hh) l=H-L->m=none ->
  ar c s.o (y6 sz l hh m sz id n n i k).val (.slice (if cap-i=L then ad' else ad'.map (·.add (L*sz))) (H-L) (cap-i-L)):=by
  intro L H q1 q2 q3 q4 q5;subst q5;simp only[y6,q3,q4];refine⟨rfl,hbox,fun ob2 s2 e2 n2 ho2 hd2=>?_⟩;rw[ho]at ho2;simp only[bst]at ho2;subst ho2;rw[hd]at hd2;simp only[bst,bt2]at hd2;obtain⟨rfl,rfl,rfl⟩:=hd2;refine⟨bsw _,fun _=>⟨ad,_,cap,hown,by rw[Nat.sub_sub],by omega,h6,h7,fun hlt=>?_⟩⟩;rw[if_neg bww,h8 bww,Option.map_map];congr 1;funext a;simp[amj,bu6]
 have any:∀(ad:Option Addr) (n cap:Nat) (mm:Int),m=some mm->ar c s.o (y6 sz l hh m sz id n n i k).val (.slice ad n cap):=by
  intro ad n cap mm q;subst q;exact rfl
 obtain⟨p1,p2,p3⟩:=hp
 rcases j4 h hl with⟨rfl,eel⟩|⟨kl,nl,rfl,eel⟩<;>rcases j4 h hhi with⟨rfl,eh⟩|⟨kh,nh,rfl,eh⟩ <;>
  rcases j4 h hm with⟨rfl,em⟩|⟨km,nm,rfl,em⟩<;>rw[eel,eh,em]<;>simp only[b7]at p1 p2 p3
 · refine ⟨_, ?_,fin 0 k (bsx _) bww rfl rfl rfl⟩
   simp[Instr.sliceAt,run_underlying h2,Instr.slice,Instr.sliceBounds,hsz]
 · exact p3.1.elim
 · refine ⟨_, ?_,fin 0 nh.toNat (bsx _) bww rfl rfl rfl⟩
   have q2:0<=nh/\nh<=(cap-i:Nat):=by omega
   simp[Instr.sliceAt,run_underlying h2,Instr.slice,Instr.sliceBounds,hsz,bz w kh nh (cap-i) _ q2]
 · refine ⟨_, ?_,any (if nm.toNat=0 then ad' else ad'.map (·.add (0*sz))) (nh.toNat-0) (nm.toNat-0) _ rfl⟩
   have q2:0<=nm/\nm<=(cap-i:Nat):=by omega
   have q3:0<=nh/\nh<=(nm.toNat:Nat):=by omega
   simp[Instr.sliceAt,run_underlying h2,Instr.slice,Instr.sliceBounds,hsz,bz w km nm (cap-i) _ q2,bz w kh nh nm.toNat _ q3]
 · refine ⟨_, ?_,fin nl.toNat k bww bww rfl rfl rfl⟩
   have q1:0<=nl/\nl<=(k:Nat):=p1;simp[Instr.sliceAt,run_underlying h2,Instr.slice,Instr.sliceBounds,hsz,bz w kl nl k _ q1]
 · exact p3.1.elim
 · refine ⟨_, ?_,fin nl.toNat nh.toNat bww bww rfl rfl rfl⟩
   have q2:0<=nh/\nh<=(cap-i:Nat):=by omega
   have q1:0<=nl/\nl<=(nh.toNat:Nat):=by omega
   simp[Instr.sliceAt,run_underlying h2,Instr.slice,Instr.sliceBounds,hsz,bz w kh nh (cap-i) _ q2,bz w kl nl nh.toNat _ q1]
 refine⟨_, ?_,any (if nm.toNat=nl.toNat then ad' else ad'.map (·.add (nl.toNat*sz))) (nh.toNat-nl.toNat) (nm.toNat-nl.toNat) _ rfl⟩;have q2:0<=nm/\nm<=(cap-i:Nat):=by omega
 have q3:0<=nh/\nh<=(nm.toNat:Nat):=by omega
 have q1:0<=nl/\nl<=(nh.toNat:Nat):=by omega
 simp[Instr.sliceAt,run_underlying h2,Instr.slice,Instr.sliceBounds,hsz,bz w km nm (cap-i) _ q2,bz w kh nh nm.toNat _ q3,bz w kl nl nh.toNat _ q1]
def arz(hE:d7 P E)(h:ah w0 nt c s a w)(hq:a98 E s.o (ev s) t x lo hi mx=some out)(hp:out.pre):
 ∃v,(Instr.sliceAt t (a.eval x) (lo.map a.eval) (hi.map a.eval) (mx.map a.eval)).run P w=.ok v w/\ar c s.o out.val v:=by
 unfold a98 at hq;split at hq<;>try(cases hq;done)
 rename_i ti hti;split at hq<;>try(cases hq;done)
 rename_i el hk;split at hq<;>try(cases hq;done)
 rename_i ei hei;split at hq<;>try(cases hq;done)
 rename_i l hh m hl hhi hm;split at hq<;>try(cases hq;done)
 rename_i hv hx;obtain⟨ii,d,h1,h2,h3,_⟩:=b5 (hE t ti hti);obtain rfl:=eo (h3.symm.trans hk);have hsz:=ef (hE el ei hei) w;have hev:=af h hx
 have ofRef:∀(id n sz n':Nat) (ob:a7) (e:TypeId),s.o id=some ob->ob.dim=some (sz,e,n')->(∃ad cap,c.own id=.slice ad n' cap/\n'<=cap/\cap<=maxLen)->bj c s.o (.ref id n) (a.eval x)->(y6 ei.size l hh m sz id n' n 0 n).pre ->
  ∃v,(Instr.sliceAt t (a.eval x) (lo.map a.eval) (hi.map a.eval) (mx.map a.eval)).run P w=.ok v w/\ar c s.o (y6 ei.size l hh m sz id n' n 0 n).val v:=by
  rintro id n sz n' ob e ho hd ⟨ad,cap,hv,hc1,hc2⟩ hr ⟨rfl,hs,hw⟩;subst hs;have hu:=((hr.2.2 _ _ _ _ ho hd).2 rfl).trans hv;rw[hu];exact akk (i:=0) (k:=n') (ad':=ad) h h2 hsz hl hhi hm ho hd hv bww hc1 hc2 (fun _=>by cases ad<;>simp[pg]) hw
 have ofWin:∀(id n sz n' i k:Nat) (ob:a7) (e:TypeId),s.o id=some ob->ob.dim=some (sz,e,n')->bj c s.o (.win id n i k) (a.eval x)->(y6 ei.size l hh m sz id n' n i k).pre ->
  ∃v,(Instr.sliceAt t (a.eval x) (lo.map a.eval) (hi.map a.eval) (mx.map a.eval)).run P w=.ok v w/\ar c s.o (y6 ei.size l hh m sz id n' n i k).val v:=by
  rintro id n sz n' i k ob e ho hd hr ⟨rfl,hs,hw⟩;subst hs;obtain⟨ad,ad',cap,q1,q2,q3,q4,q5,q6⟩:=(hr.2.2 _ _ _ _ ho hd).2 rfl;rw[q2];exact akk h h2 hsz hl hhi hm ho hd q1 q3 q4 q5 q6 hw
 unfold a0l at hq;split at hq<;>try(cases hq;done)
 · split at hq<;>try(cases hq;done)
   · rename_i ho
     simp only[bst]at hq;subst hq;exact ofRef _ _ _ _ _ _ ho rfl (zf (h.objs _ _ ho)) hev hp
   rename_i ho;simp only[bst]at hq;subst hq;exact ofRef _ _ _ _ _ _ ho rfl (ac7 (h.objs _ _ ho)) hev hp
 split at hq<;>try(cases hq;done)
 · rename_i ho
   simp only[bst]at hq;subst hq;exact ofWin _ _ _ _ _ _ _ _ ho rfl hev hp
 rename_i ho;simp only[bst]at hq;subst hq;exact ofWin _ _ _ _ _ _ _ _ ho rfl hev hp
end
end
end
end Go.Hx
