/- A part of the proof: Hx5. -/
import Derived.Laws.BytesArg
import Derived.Laws.Runes
import Derived.Test.YtmoggbnlhllhaaaGreatDoorTx02
set_option linter.all false
namespace Go.Hx
section
open Go.RowKit
def a4h (k:TK) (x y:HV):Option Bool :=
 match k,x,y with
 | .int _, .p (.raw (.int k a)), .p (.raw (.int k' b))=>match decide (k=k') with|true=>some (decide (a=b))|false=>none
 | .string, .p (.raw (.string a)), .p (.raw (.string b))=>some (decide (a=b))
 | .bool, .p (.raw (.bool a)), .p (.raw (.bool b))=>some (a==b)
 |_,_,_=>none
def a7y(E:Env)(xs ys:List HV):List (Nat×TypeId×Bool)->Option Bool
 | []=>some true
 | (off,ft,bl)::r =>
  match bl,E ft,xs[off]?,ys[off]? with
  | false,some fi,some x,some y =>
   match a4h fi.k x y with
   |some b=>match r with|[]=>some b|_=>(a7y E xs ys r).map fun b'=>b&&b'
   |none=>none
  |_,_,_,_=>none
def aoh (E:Env) (t:TypeId) (xs ys:List HV):Option Bool :=
 match E t with
 | some i =>
  match i.k,i.stood,i.eqg with
  | .struct fs,false,false=>a7y E xs ys fs
  |_,_,_=>none
 |none=>none
def a6d (E:Env) (ex:Bool) (e:Ev) (op:BinOp) (t:TypeId) (x y:Operand):Option Out :=
 match e x,e y with
 | some (.v (.one (.p (.raw u)))),some (.v (.one (.p (.raw v)))) =>
  match ax3 E ex op t u v with
  |some (pre,r)=>some ⟨pre,bo (.raw r)⟩
  |none=>none
 | some (.v (.agg l)),some (.v (.agg l')) =>
  match op,aoh E t l l' with
  | .eql,some b=>some ⟨True,bo (.raw (.bool b))⟩
  | .neq,some b=>some ⟨True,bo (.raw (.bool (!b)))⟩
  |_,_=>none
 |_,_=>none
def adw (ex:Bool) (e:Ev) (op:UnOp) (x:Operand):Option Out :=
 match op,e x with
 | .neg,some (.v (.one (.p (.raw (.int k n)))))=>some ⟨(j2 ex k (0-n)).1,bo (.raw (j2 ex k (0-n)).2)⟩
 | .xor,some (.v (.one (.p (.raw (.int k n)))))=>some ⟨True,bo (.raw (.int k (d6 .xor k (if k.signed then -1 else k.max) n)))⟩
 | .not,some (.v (.one (.p (.raw (.bool b)))))=>some ⟨True,bo (.raw (.bool (!b)))⟩
 |_,_=>none
def afv:PV->Int
 | .raw (.int _ k)=>k
 |_=>0
def ac8(n:Nat)(f:Nat->Nat->PV):ByteArray:=strOfNums ((List.range n).map fun i=>afv (f i 0))
def b88 (E:Env):TK->Bool
 | .slice el=>match E el with|some ei=>(match ei.k with | .int .u8=>true|_=>false)|none=>false
 |_=>false
def a0q (E:Env) (ex:Bool) (e:Ev) (src dst:TypeId) (x:Operand):Option Out :=
 match E src,E dst,e x with
 | some _,some di,some (.v (.one (.p (.raw (.int _ n))))) =>
  match di.k with
  | .int k=>some ⟨(j2 ex k n).1,bo (.raw (j2 ex k n).2)⟩
  | .string=>some ⟨True,bo (.raw (.string (Utf8.encode n)))⟩
  |_=>none
 | some si,some di,some (.v (.one (.p (.sl n sz _ f)))) =>
  match di.k,b88 E si.k with
  | .string,true=>some ⟨sz=1/\∀i,i<n->∃k,f i 0=.raw (.int .u8 k),bo (.raw (.string (ac8 n f)))⟩
  |_,_=>none
 | some _,some di,some (.v (.one (.p (.raw (.string b))))) =>
  match di.k with
  | .string=>some ⟨True,bo (.raw (.string b))⟩
  |_=>none
 |_,_,_=>none
def i9 (e:Ev):Option Operand->Option (Option Int)
 |none=>some none
 |some y=>match e y with|some (.v (.one (.p (.raw (.int _ n)))))=>some (some n)|_=>none
def c8 (n:Nat):Option Int->Nat
 |none=>n
 |some h=>h.toNat
def gw (n:Nat):Option Int->Nat
 |none=>n
 |some l=>n-l.toNat
def pn (f:Nat->Nat->PV):Option Int->Nat->Nat->PV
 |none=>f
 |some l=>fun i j=>f (l.toNat+i) j
def ajh (clip:Bool):Option Int->Option Int->Bool
 |some _,_=>true
 |none,none=>clip
 |none,some _=>false
def ar2 (n:Nat) (lo hi mx:Option Int):Prop :=
 (match lo with|none=>True|some l=>0<=l/\l<=(c8 n hi:Nat))/\(match hi with|none=>True|some h=>0<=h/\h<=n)/\(match mx with|none=>True|some m=>hi=some m)
def l3(E:Env)(e:Ev)(t:TypeId)(x:Operand)(lo hi mx:Option Operand):Option Out :=
 match E t,e x,i9 e lo,i9 e hi,i9 e mx with
 | some ti,some (.v (.one (.p (.raw (.string b))))),some l,some h,some none =>
  match ti.k with
  | .string=>some ⟨ar2 b.size l h none,bo (.raw (.string (b.extract (c8 0 l) (c8 b.size h))))⟩
  |_=>none
 | some ti,some (.v (.one (.p (.sl n sz c f)))),some l,some h,some m =>
  match ti.k with
  | .slice el =>
   match E el with
   |some ei=>some ⟨ei.size=sz/\ar2 n l h m,bo (.sl (gw (c8 n h) l) sz (ajh c m h) (pn f l))⟩
   |none=>none
  |_=>none
 |_,_,_,_,_=>none
def b5u (n C:Nat) (l h m:Option Int):Prop :=
 (match l with|none=>True|some l=>0<=l/\l<=(c8 n h:Nat))/\(match h with|none=>True|some h=>0<=h/\h<=C)/\(match m with|none=>True|some mm=>(match h with|none=>False|some hv=>hv<=mm)/\mm<=C)
def vd (size:Nat) (l h m:Option Int) (sz id n' n i k:Nat):Out :=
 ⟨n'=n/\size=sz/\b5u k (n-i) l h m,match m with|none=>.v (.one (.win id n (i+c8 0 l) (gw (c8 k h) l)))|some _=>bo .any⟩
def xu (o:am) (size:Nat) (l h m:Option Int):HV->Option Out
 | .ref id n =>
  match o id with
  |some (.arr _ sz _ n' _)=>some (vd size l h m sz id n' n 0 n)
  |some (.arrh sz _ n' _ _)=>some (vd size l h m sz id n' n 0 n)
  |_=>none
 | .win id n i k =>
  match o id with
  |some (.arr _ sz _ n' _)=>some (vd size l h m sz id n' n i k)
  |some (.arrh sz _ n' _ _)=>some (vd size l h m sz id n' n i k)
  |_=>none
 |_=>none
def a6f(E:Env)(o:am)(e:Ev)(t:TypeId)(x:Operand)(lo hi mx:Option Operand):Option Out :=
 match E t with
 | some ti =>
  match ti.k with
  | .slice el =>
   match E el with
   | some ei =>
    match i9 e lo,i9 e hi,i9 e mx with
    | some l,some hh,some m =>
     match e x with
     |some (.v (.one h))=>xu o ei.size l hh m h
     |_=>none
    |_,_,_=>none
   |none=>none
  |_=>none
 |none=>none
def c5(b:ByteArray)(i:Nat):Int:=((b.data.toList.getD i 0).toNat:Int)
def wg (E:Env) (e:Ev) (t:TypeId) (x ix:Operand):Option Out :=
 match E t,e x,e ix with
 | some ti,some (.v (.one (.p (.raw (.string b))))),some (.v (.one (.p (.raw (.int _ i))))) =>
  match ti.k with
  | .string=>some ⟨0<=i/\i<b.size,bo (.raw (.int .u8 (c5 b i.toNat)))⟩
  |_=>none
 |_,_,_=>none
def qw (e:Ev) (x:Operand) (i:Nat):Option Out :=
 match e x with
 |some (.tup l)=>match l[i]? with|some c=>some ⟨True, .v c⟩|none=>none
 |_=>none
def qp(E:Env)(e:Ev)(b:Builtin)(args:List Operand)(tys:List TypeId):Option Out :=
 match b,args,tys with
 | .len,[x],t::_ =>
  match E t with
  | some ti =>
   match ti.k,e x with
   | .string,some (.v (.one (.p (.raw (.string b)))))=>some ⟨True,bo (.raw (.int .i64 b.size))⟩
   | .slice _,some (.v (.one (.p (.sl n _ _ _))))=>some ⟨True,bo (.raw (.int .i64 n))⟩
   |_,_=>none
  |none=>none
 | .min,[x,y],_ =>
  match e x,e y with
  |some (.v (.one (.p (.raw (.int k a))))),some (.v (.one (.p (.raw (.int _ b)))))=>some ⟨True,bo (.raw (.int k (if b<a then b else a)))⟩
  |_,_=>none
 | .max,[x,y],_ =>
  match e x,e y with
  |some (.v (.one (.p (.raw (.int k a))))),some (.v (.one (.p (.raw (.int _ b)))))=>some ⟨True,bo (.raw (.int k (if a<b then b else a)))⟩
  |_,_=>none
 |_,_,_=>none
def a3o (o:am):HV->Option Out
 | .ref id n =>
  match o id with
  |some (.arr _ _ _ n' _)=>some ⟨n'=n,bo (.raw (.int .i64 n))⟩
  |some (.arrh _ _ n' _ _)=>some ⟨n'=n,bo (.raw (.int .i64 n))⟩
  |some (.nest _ _ _ n' _ _ none)=>some ⟨n'=n,bo (.raw (.int .i64 n))⟩
  |_=>none
 | .row id i k =>
  match o id with
  |some (.nest _ _ _ n m _ _)=>some ⟨i<n/\m i=k,bo (.raw (.int .i64 k))⟩
  |_=>none
 | .win id n _ m =>
  match o id with
  |some (.arr _ _ _ n' _)=>some ⟨n'=n,bo (.raw (.int .i64 m))⟩
  |some (.arrh _ _ n' _ _)=>some ⟨n'=n,bo (.raw (.int .i64 m))⟩
  |_=>none
 |_=>none
def sx(E:Env)(o:am)(e:Ev)(b:Builtin)(args:List Operand)(tys:List TypeId):Option Out :=
 match b,args,tys with
 | .len,[x],t::_ =>
  match E t with
  | some ti =>
   match ti.k with
   | .slice _ =>
    match e x with
    |some (.v (.one h))=>a3o o h
    |_=>none
   |_=>none
  |none=>none
 |_,_,_=>none
def bi8:HV->Option PV
 | .p x=>some x
 |_=>none
def yo (e:Ev):List Operand->Option (List PV)
 | []=>some []
 | x::r =>
  match e x,yo e r with
  |some (.v (.one (.p y))),some l=>some (y::l)
  |_,_=>none
def yc (e:Ev):List Operand->Option (List HV)
 | []=>some []
 | x::r =>
  match e x,yc e r with
  |some (.v (.one y)),some l=>some (y::l)
  |_,_=>none
def jm:List HV->Option (List PV)
 | []=>some []
 | .p x::r=>match jm r with|some l=>some (x::l)|none=>none
 |_::_=>none
def a05 (e:Ev) (fn:Fn) (first caps:List Operand):Option Out :=
 match fn,first with
 | .func f,[] =>
  match yo e caps with
  |some l=>some ⟨True,bo (.fn f l.length fun i=>l.getD i .any)⟩
  |none=>match yc e caps with|some l=>some ⟨True, .v (.one (.clo f l.length fun i=>l.getD i (.p .any)))⟩|none=>none
 | .func f,[x] =>
  match caps,e x with
  | [],some (.v (.agg hs))=>match jm hs with|some l=>some ⟨True,bo (.bnd f l.length fun i=>l.getD i .any)⟩|none=>none
  |_,_=>none
 |_,_=>none
def pw (o:am) (e:Ev) (x:Operand):Option Out :=
 match e x with
 |some (.v (.one (.p (.fn g k c))))=>some ⟨True,bo (.fn g k c)⟩
 |some (.v (.one (.clo g k c)))=>some ⟨True, .v (.one (.clo g k c))⟩
 |some (.v (.one h))=>match tgt o h with|some (p,_,_)=>some ⟨p, .v (.one h)⟩|none=>none
 |_=>none
def azk (b:Bool):Option HR->Option HR->Option Out
 |some (.v (.one (.p (.raw (.bool x))))),some (.v (.one (.p (.raw (.bool y)))))=>some ⟨True,bo (.raw (.bool (bif b then x else y)))⟩
 |some x,none=>some ⟨b=true,x⟩
 |some x,some (.tup [])=>some ⟨b=true,x⟩
 |none,some y=>some ⟨b=false,y⟩
 |some (.tup []),some y=>some ⟨b=false,y⟩
 |some x,some y=>match b with|true=>some ⟨True,x⟩|false=>some ⟨True,y⟩
 |none,none=>none
def a0p (e:Ev) (c x y:Operand):Option Out :=
 match e c with
 |some (.v (.one (.p (.raw (.bool b)))))=>azk b (e x) (e y)
 |_=>none
def ahj (op:BinOp) (n:Nat):Option Out :=
 match op with
 | .eql=>some ⟨0<n,bo (.raw (.bool false))⟩
 | .neq=>some ⟨0<n,bo (.raw (.bool true))⟩
 |_=>none
def a01 (op:BinOp) (ad:Option Addr):Option Out :=
 match op with
 | .eql=>some ⟨True,bo (.raw (.bool ad.isNone))⟩
 | .neq=>some ⟨True,bo (.raw (.bool (!ad.isNone)))⟩
 |_=>none
def ta(E:Env)(e:Ev)(op:BinOp)(t:TypeId)(x y:Operand):Option Out :=
 match y with
 | .const (.slice none 0 0) =>
  match E t with
  | some i =>
   match i.k with
   | .slice _ =>
    match e x with
    |some (.v (.one (.p (.sl n _ _ _))))=>ahj op n
    |some (.v (.one (.p (.raw (.slice ad _ _)))))=>a01 op ad
    |_=>none
   |_=>none
  |none=>none
 |_=>none
def ab5 (op:BinOp) (b:Bool):Option Out :=
 match op with
 | .eql=>some ⟨True,bo (.raw (.bool b))⟩
 | .neq=>some ⟨True,bo (.raw (.bool (!b)))⟩
 |_=>none
def a18 (o:am) (op:BinOp):HV->Option Out
 | .ptr id _=>match o id with|some (.box _)=>ab5 op false|_=>none
 | .p (.raw (.pointer p))=>ab5 op p.isNone
 |_=>none
def jo(E:Env)(o:am)(e:Ev)(op:BinOp)(t:TypeId)(x y:Operand):Option Out :=
 match y with
 | .const (.pointer none) =>
  match E t with
  | some i =>
   match i.k with
   | .pointer _ =>
    match e x with
    |some (.v (.one h))=>a18 o op h
    |_=>none
   |_=>none
  |none=>none
 |_=>none
def xr (E:Env):List (Nat×TypeId×Bool)->Option (List (Nat×Nat))
 | []=>some []
 | (off,ft,_)::r =>
  match E ft,xr E r with
  |some fi,some l=>some ((off,fi.size)::l)
  |_,_=>none
def HC.cells:HC->List HV
 | .one h=>[h]
 | .agg l=>l
def bf(l:List HV)(off:Nat)(new:List HV):List HV:=l.take off++new++l.drop (off+new.length)
def fz(e:Ev)(places:List (Nat×Nat))(cells:List HV):List (Nat×Operand)->Option (List HV)
 | []=>some cells
 | (i,x)::r =>
  match places[i]?,e x with
  | some (off,size),some (.v c) =>
   match decide (c.cells.length=size),decide (off+size<=cells.length) with
   |true,true=>fz e places (bf cells off c.cells) r
   |_,_=>none
  |_,_=>none
def wl(E:Env)(e:Ev)(t:TypeId)(parts:List (Nat×Operand)):Option Out :=
 match E t with
 | some i =>
  match i.k,i.zero with
  | .struct fs,some z =>
   match xr E fs,nq z with
   | some places,true =>
    match fz e places (z.map fun c=>.p (k6 c)) parts with
    |some l=>some ⟨True, .v (.agg l)⟩
    |none=>none
   |_,_=>none
  | .array n el,some z =>
   match E el,nq z with
   | some ie,true =>
    match fz e ((List.range n).map fun k=>(k*ie.size,ie.size)) (z.map fun c=>.p (k6 c)) parts with
    |some l=>some ⟨True, .v (.agg l)⟩
    |none=>none
   |_,_=>none
  |_,_=>none
 |none=>none
def a9d:TK->Option KK
 | .int q=>some (.int q)
 | .string=>some .str
 |_=>none
def avu{k:TK}{kk:KK}(h:a9d k=some kk)(b:Nat):kk.has b:=by cases k<;>simp[a9d]at h<;>subst h<;>trivial
def anz:Value->Option MK
 | .int q n=>some (.i q n)
 | .string b=>some (.s b)
 |_=>none
def aho {v:Value} {m:MK} (h:anz v=some m):m.val=v:=by
 cases v<;>simp[anz]at h<;>subst h<;>rfl
def yk(f:MK->Option PV)(m:MK)(z:Value):PV:=match f m with|some y=>y|none=>k6 z
def a3w(f:MK->Option PV)(m:MK):Bool:=match f m with|some _=>true|none=>false
def a0c(has:MK->Bool)(f:MK->PV)(m:MK)(z:Value):PV:=match has m with|true=>f m|false=>k6 z
def aad(o:am)(kk:KK)(m:MK)(z:Value)(cm:Bool):HV->Option Out
 | .p (.mp kk' _ has f) =>
  match cm with
  |true=>some ⟨kk'=kk/\MK.ok kk m, .tup [.one (.p (a0c has f m z)), .one (.p (.raw (.bool (has m))))]⟩
  |false=>some ⟨kk'=kk/\MK.ok kk m, .v (.one (.p (a0c has f m z)))⟩
 | .ref id _ =>
  match o id with
  | some (.mp kk' _ f) =>
   match cm with
   |true=>some ⟨kk'=kk/\MK.ok kk m, .tup [.one (.p (yk f m z)), .one (.p (.raw (.bool (a3w f m))))]⟩
   |false=>some ⟨kk'=kk/\MK.ok kk m, .v (.one (.p (yk f m z)))⟩
  |_=>none
 |_=>none
def afu (E:Env) (kt et:TypeId):Option (KK×Value) :=
 match E kt,E et with
 | some ki,some ei =>
  match a9d ki.k,ei.zero,ei.zone with
  |some kk,some [z],true=>some (kk,z)
  |_,_,_=>none
 |_,_=>none
def ju(E:Env)(o:am)(e:Ev)(t:TypeId)(x ix:Operand)(cm:Bool):Option Out :=
 match E t with
 | some i =>
  match i.k with
  | .map kt et =>
   match afu E kt et with
   | some (kk,z) =>
    match e ix with
    | some (.v (.one (.p (.raw kv)))) =>
     match anz kv with
     | some m =>
      match e x with
      |some (.v (.one h))=>aad o kk m z cm h
      |_=>none
     |none=>none
    |_=>none
   |none=>none
  |_=>none
 |none=>none
def hq (E:Env) (ex:Bool) (o:am) (e:Ev):Op->Option Out
 | .move x=>(e x).map fun r=>⟨True,r⟩
 | .assign x=>(e x).map fun r=>⟨True,r⟩
 | .pick c x y=>a0p e c x y
 | .nilCheck x=>pw o e x
 | .load t x=>mb E o e t x
 | .fieldAddr t x k=>ep E o e t x k
 | .field t x k=>wd E e t x k
 | .indexAddr t x i=>fh E o e t x i
 | .index t x i=>wg E e t x i
 | .lookup t x i cm=>ju E o e t x i cm
 | .binOp op t x y _=>match ta E e op t x y with|some r=>some r|none=>match jo E o e op t x y with|some r=>some r|none=>a6d E ex e op t x y
 | .unOp op _ x=>adw ex e op x
 | .convert s d x=>a0q E ex e s d x
 | .extract x i=>qw e x i
 | .slice t x lo hi mx=>match l3 E e t x lo hi mx with|some r=>some r|none=>a6f E o e t x lo hi mx
 | .makeFunc fn first caps=>a05 e fn first.toList caps.toList
 | .build t parts=>wl E e t parts.toList
 | .call c =>
  match c.callee with
  | .builtin b=>match qp E e b c.args.toList c.argTypes.toList with|some r=>some r|none=>sx E o e b c.args.toList c.argTypes.toList
  |_=>none
 |_=>none
section
variable {P:Program}{E:Env}{w0:World}{nt:Nat}{c:Ctx}{s:S}{a:Act}{w:World}
def d9{c:Ctx}{o:am}{v:Value}(h:v.oneCell'=true):al c o (bo (.raw v)) v:=⟨rfl,h⟩
section
variable {t:TypeId}
def ah6(hE:cb P E){fi:TI}(hi:E t=some fi){x y:HV}{b:Bool}(hl:a4h fi.k x y=some b){o:am}{u v:Value}(hu:b9 c o x u)(hv:b9 c o y v)(d:Nat)(w:World):
 (Op.equalIn (d+1) t u v).run P w=.ok b w:=by
 obtain⟨ii,dd,h1,h2,h3,_⟩:=aw (hE t fi hi);unfold a4h at hl;split at hl<;>try(cases hl;done)
 · rename_i hk
   split at hl<;>try(cases hl;done)
   rename_i hkk;have hkk:=of_decide_eq_true hkk;subst hkk;simp only[bij]at hl;subst hl;obtain⟨rfl,_⟩:=hu;obtain⟨rfl,_⟩:=hv;have:∃k',dd=.int k':=by cases dd<;>simp_all [gc]
   obtain⟨k',rfl⟩:=this;rw[run_equalIn_int w d t _ k' _ _ h2];congr 1
 · rename_i hk
   simp only[bij]at hl;subst hl;obtain⟨rfl,_⟩:=hu;obtain⟨rfl,_⟩:=hv;have:dd=.string:=by cases dd<;>simp_all [gc]
   subst this;rw[run_equalIn_string w d t _ _ h2,xf]
 rename_i hk;simp only[bij]at hl;subst hl;obtain⟨rfl,_⟩:=hu;obtain⟨rfl,_⟩:=hv;have:dd=.bool:=by cases dd<;>simp_all [gc]
 subst this;exact run_equalIn_bool w d t _ _ h2
def alh {k:TK} {x y:HV} {b:Bool} (h:a4h k x y=some b):k.isAgg=false:=by
 cases k<;>simp_all [a4h,TK.isAgg]
theorem a9z (hE:cb P E) {o:am} {xs ys:List HV} {us vs:List Value} (hx:b5 c o xs us) (hy:b5 c o ys vs) (d:Nat) (w:World) :
 ∀ (fs : List Field) (b : Bool), a7y E xs ys (fs.map fun f => (f.offset, f.type, f.name == "_")) = some b -> (Op.eqFields (d + 1) us.toArray vs.toArray fs).run P w = .ok b w
 | [],b,h=>by simp[a7y]at h;subst h;simp[Op.eqFields]
 | f :: fs,b,h=>by
  simp only[bk4,a7y]at h;split at h<;>try(cases h;done)
  rename_i fi x y hbl hfi hxo hyo;have hname : f.name ≠ "_" := by simpa using hbl
  split at h<;>try(cases h;done)
  rename_i bb hleaf;obtain⟨u,hu,hru⟩:=hx.get _ _ hxo;obtain⟨v,hv,hrv⟩:=hy.get _ _ hyo;have hag:=alh hleaf;obtain⟨mu,pu⟩:=ud (P:=P) (hE _ _ hfi) us f.offset w;obtain⟨mv,pv⟩:=ud (P:=P) (hE _ _ hfi) vs f.offset w;rw[hag,hu]at pu;rw[hag,hv]at pv;have he:=ah6 hE hfi hleaf hru hrv d w
  have key : ∀ bb', (match fs.map (fun f => (f.offset, f.type, f.name == "_")) with | [] => some bb | _ => (a7y E xs ys (fs.map fun f => (f.offset, f.type, f.name == "_"))).map fun b' => bb && b') = some bb' ->
   (Op.eqFields (d+1) us.toArray vs.toArray (f::fs)).run P w=.ok bb' w:=by
   intro bb' hb;simp only[Op.eqFields,ne_eq,hname,not_false_eq_true,if_true,bjk,pu,pv,blp,if_false,bj4,he,Sem.run_ite,bjz];split at hb
   · rename_i hnil
     simp only[List.map_eq_nil_iff]at hnil;subst hnil;simp only[bij]at hb;subst hb;cases bb<;>simp[Op.eqFields]
   cases hr : a7y E xs ys (fs.map fun f => (f.offset, f.type, f.name == "_")) with
   |none=>rw[hr]at hb;cases hb
   | some b' =>
    rw[hr]at hb;simp only[bjd,bij]at hb;subst hb;have ih:=a9z hE hx hy d w fs b' hr
    grind
  exact key b h
variable {ex:Bool}{out:Out}{x:Operand}
def al9(hE:cb P E)(h:ai w0 nt c s a w){op:BinOp}{y:Operand}(hq:a6d E ex (ev s) op t x y=some out)(hp:out.pre):
 ∃v,(do eqGuard op t x y (a.eval x) (a.eval y);binOp op t (a.eval x) (a.eval y):Sem Value).run P w=.ok v w/\al c s.o out.val v:=by
 unfold a6d at hq;split at hq<;>try(cases hq;done)
 · rename_i u v hx hy
   split at hq<;>try(cases hq;done)
   rename_i pre r hb;simp only[bij]at hq;subst hq;obtain⟨e1,_⟩:=af h hx;obtain⟨e2,_⟩:=af h hy;rw[e1,e2];obtain⟨h1,h2⟩:=aof (x:=x) (y:=y) hE hb hp w;exact⟨r,h1,d9 h2⟩
 rename_i l l' hx hy;obtain⟨us,e1,r1⟩:=af h hx;obtain⟨vs,e2,r2⟩:=af h hy
 have core:∀b,aoh E t l l'=some b->(eqGuard op t x y (.agg us.toArray) (.agg vs.toArray)).run P w=.ok () w/\(Op.equalIn 10000 t (.agg us.toArray) (.agg vs.toArray)).run P w=.ok b w:=by
  intro b hb;unfold aoh at hb;split at hb<;>try(cases hb;done)
  rename_i i hi;split at hb<;>try(cases hb;done)
  rename_i fs hk hst heg;obtain⟨ii,d,h1,h2,h3,h4,h5,h6,h7,h8⟩:=aw (hE t i hi);obtain⟨fa,rfl,hfa⟩:=tv (h3.symm.trans hk);rw[hst]at h7;rw[heg]at h8;refine⟨run_eqGuard_agg w op t x y _ _ h8.symm, ?_⟩;have hfo:P.fieldsOf t=fa:=by simp[Program.fieldsOf,h2]
  rw[run_equalIn_struct w 9999 t _ _ (by rw[hfo];exact h2) h7.symm,hfo];rw[hfa]at hb;exact a9z hE r1 r2 9998 w fa.toList b hb
 rw[e1,e2];split at hq<;>try(cases hq;done)
 · rename_i b hb
   simp only[bij]at hq;subst hq;obtain⟨g1,g2⟩:=core b hb;refine⟨.bool b, ?_,d9 rfl⟩;rw[bjk,g1,bj4,run_eql_struct,g2,bj4]
 rename_i b hb;simp only[bij]at hq;subst hq;obtain⟨g1,g2⟩:=core b hb;refine⟨.bool (!b), ?_,d9 rfl⟩;rw[bjk,g1,bj4,run_neq_struct,g2,bj4]
def tx {k:IntKind} {n:Int} (hp:(j2 ex k n).1):(j2 ex k n).2=.int k (k.wrap n):=by
 cases ex
 · rfl
 simp only[j2]at hp ⊢;rw[qb hp]
def ao5(h:ai w0 nt c s a w){op:UnOp}(hq:adw ex (ev s) op x=some out)(hp:out.pre):
 ∃v,(Op.unary op (a.eval x)).run P w=.ok v w/\al c s.o out.val v:=by
 unfold adw at hq;split at hq<;>try(cases hq;done)
 · rename_i k n hx
   simp only[bij]at hq;subst hq;obtain⟨e1,_⟩:=af h hx;rw[e1];refine⟨_, ?_,d9 (by rw[tx hp];rfl)⟩;rw[tx hp];simp[Op.unary,Op.intArith]
 · rename_i k n hx
   simp only[bij]at hq;subst hq;obtain⟨e1,_⟩:=af h hx;rw[e1];exact⟨_,by simp[Op.unary,Op.intBits,d6],d9 rfl⟩
 rename_i b hx;simp only[bij]at hq;subst hq;obtain⟨e1,_⟩:=af h hx;rw[e1];exact⟨_,by simp[Op.unary],d9 rfl⟩
def ajj(hE:cb P E)(h:ai w0 nt c s a w){src dst:TypeId}(hq:a0q E ex (ev s) src dst x=some out)(hp:out.pre):
 ∃v,(convert src dst (a.eval x)).run P w=.ok v w/\al c s.o out.val v:=by
 unfold a0q at hq;split at hq<;>try(cases hq;done)
 · rename_i si di k n hs hd hx
   obtain⟨e1,_⟩:=af h hx;rw[e1];obtain⟨ii,d,h1,h2,h3,_⟩:=aw (hE dst di hd);obtain⟨ii',d',h1',h2',h3',_⟩:=aw (hE src si hs);split at hq<;>try(cases hq;done)
   · rename_i k' hk
     simp only[bij]at hq;subst hq;have:d=.int k':=by cases d<;>simp_all [gc]
     subst this;refine⟨_, ?_,d9 (by rw[tx hp];rfl)⟩;rw[tx hp];simp[convert,run_underlying h2,run_underlying h2',Conv.intToInt]
   rename_i hk;simp only[bij]at hq;subst hq;have:d=.string:=by cases d<;>simp_all [gc]
   subst this;exact⟨_,run_convert_int_string w src dst k n (by rw[h2'];rfl) h2,d9 rfl⟩
 · rename_i si di n sz cl f hs hd hx
   split at hq<;>try(cases hq;done)
   rename_i hk hu;simp only[bij]at hq;subst hq;obtain⟨rfl,hp⟩:=hp;obtain⟨ii,d,h1,h2,h3,_⟩:=aw (hE dst di hd);obtain⟨ii',d',h1',h2',h3',_⟩:=aw (hE src si hs);have:d=.string:=by cases d<;>simp_all [gc]
   subst this;unfold b88 at hu;split at hu<;>try(cases hu;done)
   rename_i el hel;split at hu<;>try(cases hu;done)
   rename_i ei hei;split at hu<;>try(cases hu;done)
   rename_i hek;obtain⟨ii2,d2,h12,h22,h32,_⟩:=aw (hE el ei hei);have:d'=.slice el:=by cases d'<;>simp_all [gc]
   subst this;have:d2=.int .u8:=by cases d2<;>simp_all [gc]
   subst this;obtain⟨ad,cap,e1,_,_,_,e5⟩:=af h hx;rw[e1];by_cases hn:n=0
   · subst hn
     cases ad with
     |none=>exact⟨_,run_convert_bytes_nil w src el h2' h22 0 cap dst h2,d9 rfl⟩
     | some ad =>
      refine⟨_, ?_,d9 rfl⟩;rw[run_convert_bytes_string w src dst el _ 0 cap h2' h22 h2];have hl:(loadCells ad 0).run P w=.ok #[] w:=run_loadCells_list (P:=P) w ad [] (fun j v hj=>by simp at hj);have:=run_bytesToString (P:=P) w ad 0 cap [] (by simpa using hl);rw[this];rfl
   obtain⟨b,off,rfl,hc⟩:=e5 bmq;refine⟨_,run_convert_bytes_arg w src el h2' h22 b off n cap ((List.range n).map fun i=>afv (f i 0)) bmu (fun i hi=>?_) dst h2,d9 rfl⟩;obtain⟨x,hx,hr⟩:=hc i 0 hi bmq;obtain⟨k,hk⟩:=hp i hi;rw[hk]at hr;have hx':=u7 h hx;rw[bll,bkh]at hx';rw[hx',hr.1];simp[List.getD,bjl,bkj hi,hk,afv]
 rename_i si di b hs hd hx;split at hq<;>try(cases hq;done)
 rename_i hk;simp only[bij]at hq;subst hq;obtain⟨e1,_⟩:=af h hx;rw[e1];obtain⟨ii,d,h1,h2,h3,_⟩:=aw (hE dst di hd);obtain⟨ii',d',h1',h2',h3',_⟩:=aw (hE src si hs);have:d=.string:=by cases d<;>simp_all [gc]
 subst this;exact⟨_,by simp[convert,run_underlying h2,run_underlying h2'],d9 rfl⟩
def go (h:ai w0 nt c s a w) {x:Option Operand} {r:Option Int} (hx:i9 (ev s) x=some r) :
 (r=none/\x.map a.eval=none)\/∃k n,r=some n/\x.map a.eval=some (.int k n):=by
 cases x with
 |none=>simp[i9]at hx;exact .inl ⟨hx.symm,rfl⟩
 | some y =>
  simp only[i9]at hx;split at hx<;>try(cases hx;done)
  rename_i k n hy;simp only[bij]at hx;obtain⟨e1,_⟩:=af h hy;exact .inr ⟨k,n,hx.symm,by simp[e1]⟩
def bj (w:World) (k:IntKind) (n:Int) (y:Nat) (cd:BoundsCode) (h:0<=n/\n<=y):(Instr.sliceBound (.int k n) y cd).run P w=.ok n.toNat w:=by
 simp[Instr.sliceBound,asIntOf,h]
variable {hi lo mx:Option Operand}
def a33(hE:cb P E)(h:ai w0 nt c s a w)(hq:l3 E (ev s) t x lo hi mx=some out)(hp:out.pre):
 ∃v,(Instr.sliceAt t (a.eval x) (lo.map a.eval) (hi.map a.eval) (mx.map a.eval)).run P w=.ok v w/\al c s.o out.val v:=by
 unfold l3 at hq;split at hq<;>try(cases hq;done)
 · rename_i ti b l hh hti hx hl hhi hm
   split at hq<;>try(cases hq;done)
   rename_i hk;simp only[bij]at hq;subst hq;obtain⟨p1,p2,_⟩:=hp;obtain⟨e1,_⟩:=af h hx;obtain⟨ii,d,h1,h2,h3,_⟩:=aw (hE t ti hti);have:d=.string:=by cases d<;>simp_all [gc]
   subst this
   have hm':mx.map a.eval=none:=by
    rcases go h hm with⟨_,e⟩|⟨k,n,e,_⟩
    · exact e
    cases e
   rw[e1,hm'];refine⟨.string (b.extract (c8 0 l) (c8 b.size hh)), ?_,d9 rfl⟩
   rcases go h hl with⟨rfl,el⟩|⟨kl,nl,rfl,el⟩<;>rcases go h hhi with⟨rfl,eh⟩|⟨kh,nh,rfl,eh⟩<;>rw[el,eh] <;>
    simp only[c8]at p1 p2 ⊢
   · simp[Instr.sliceAt,run_underlying h2,Instr.slice,Instr.sliceBounds]
   · simp[Instr.sliceAt,run_underlying h2,Instr.slice,Instr.sliceBounds,bj w kh nh b.size _ p2]
   · simp[Instr.sliceAt,run_underlying h2,Instr.slice,Instr.sliceBounds,bj w kl nl b.size _ p1]
   have p1':0<=nl/\nl<=(nh.toNat:Nat):=p1;simp[Instr.sliceAt,run_underlying h2,Instr.slice,Instr.sliceBounds,bj w kh nh b.size _ p2,bj w kl nl nh.toNat _ p1']
 rename_i ti n sz cl f l hh m hti hx hl hhi hm;split at hq<;>try(cases hq;done)
 rename_i el hk;split at hq<;>try(cases hq;done)
 rename_i ei hei;simp only[bij]at hq;subst hq;obtain⟨hs,p1,p2,p3⟩:=hp;obtain⟨ad,cap,e1,hcap,hmax,hclip,hc⟩:=af h hx;obtain⟨ii,d,h1,h2,h3,_⟩:=aw (hE t ti hti);obtain rfl:=dj (h3.symm.trans hk);have hsz:=da (hE el ei hei) w;rw[e1]
 have fin:∀(L H M:Nat),L<=H->H<=n->H<=M->M<=cap->gw (c8 n hh) l=H-L->(∀i j,pn f l i j=f (L+i) j)->(ajh cl m hh=true->M=H) ->
  al c s.o (bo (.sl (gw (c8 n hh) l) sz (ajh cl m hh) (pn f l))) (.slice (if M=L then ad else ad.map (·.add (L*ei.size))) (H-L) (M-L)):=by
  intro L H M h1 h2 h3 h4 hn hf hcl;refine⟨_,M-L,by rw[hn],by omega,by omega,fun h=>by have:=hcl h;omega,fun hpos=>?_⟩;rw[hn]at hpos;rw[if_neg bmq];obtain⟨b,off,rfl,hcell⟩:=hc bmq;refine⟨b,off+L*ei.size,by simp[d5],fun i j hi hj=>?_⟩;obtain⟨u,hu,hr⟩:=hcell (L+i) j bmq hj;refine⟨u, ?_,by rw[hf];exact hr⟩;rw[hs,bkp off,<- bkp (L*sz),<- bjt];exact hu
 have hM:∀(k:IntKind) (mm:Int),m=some mm->∃hv,hh=some hv/\mm=hv:=fun k mm e=>by
  subst e;exact⟨mm,p3,rfl⟩
 rcases go h hl with⟨rfl,eel⟩|⟨kl,nl,rfl,eel⟩<;>rcases go h hhi with⟨rfl,eh⟩|⟨kh,nh,rfl,eh⟩ <;>
  rcases go h hm with⟨rfl,em⟩|⟨km,nm,rfl,em⟩<;>rw[eel,eh,em]<;>simp only[c8]at p1 p2 p3
 · refine ⟨_, ?_,fin 0 n cap (bio _) (bil _) hcap (bil _) rfl (fun i j=>by simp[pn]) (fun h=>hclip h)⟩
   simp[Instr.sliceAt,run_underlying h2,Instr.slice,Instr.sliceBounds,hsz]
 · cases p3
 · refine ⟨_, ?_,fin 0 nh.toNat cap (bio _) bmq bmq (bil _) rfl (fun i j=>by simp[pn]) (fun h=>by cases h)⟩
   have q2:0<=nh/\nh<=(cap:Nat):=by omega
   simp[Instr.sliceAt,run_underlying h2,Instr.slice,Instr.sliceBounds,hsz,bj w kh nh cap _ q2]
 · simp only [bij]at p3
   subst p3;refine⟨_, ?_,fin 0 nh.toNat nh.toNat (bio _) bmq bmq bmq rfl (fun i j=>by simp[pn]) (fun _=>rfl)⟩;have q2:0<=nh/\nh<=(cap:Nat):=by omega
   have q3:0<=nh/\nh<=(nh.toNat:Nat):=by omega
   simp[Instr.sliceAt,run_underlying h2,Instr.slice,Instr.sliceBounds,hsz,bj w km nh cap _ q2,bj w kh nh nh.toNat _ q3]
 · refine ⟨_, ?_,fin nl.toNat n cap bmq (bil _) hcap (bil _) rfl (fun i j=>rfl) (fun h=>hclip h)⟩
   have q1:0<=nl/\nl<=(n:Nat):=p1;simp[Instr.sliceAt,run_underlying h2,Instr.slice,Instr.sliceBounds,hsz,bj w kl nl n _ q1]
 · cases p3
 · refine ⟨_, ?_,fin nl.toNat nh.toNat cap bmq bmq bmq (bil _) rfl (fun i j=>rfl) (fun h=>by cases h)⟩
   have q2:0<=nh/\nh<=(cap:Nat):=by omega
   have q1:0<=nl/\nl<=(nh.toNat:Nat):=by omega
   simp[Instr.sliceAt,run_underlying h2,Instr.slice,Instr.sliceBounds,hsz,bj w kh nh cap _ q2,bj w kl nl nh.toNat _ q1]
 simp only[bij]at p3;subst p3;refine⟨_, ?_,fin nl.toNat nh.toNat nh.toNat bmq bmq bmq bmq rfl (fun i j=>rfl) (fun _=>rfl)⟩;have q2:0<=nh/\nh<=(cap:Nat):=by omega
 have q3:0<=nh/\nh<=(nh.toNat:Nat):=by omega
 have q1:0<=nl/\nl<=(nh.toNat:Nat):=by omega
 simp[Instr.sliceAt,run_underlying h2,Instr.slice,Instr.sliceBounds,hsz,bj w km nh cap _ q2,bj w kh nh nh.toNat _ q3,bj w kl nl nh.toNat _ q1]
theorem ajb (a:Addr) (x y:Nat):(a.add x).add y=a.add (x+y):=by
 unfold Addr.add
 grind
def a32(a:Addr):a.add 0=a:=by unfold Addr.add;simp
def af4(h:ai w0 nt c s a w){el:TypeId}{sz:Nat}(h2:P.underlying t=some (.slice el))(hsz:(sizeOf el).run P w=.ok sz w){l hh m:Option Int}(hl:i9 (ev s) lo=some l)(hhi:i9 (ev s) hi=some hh)(hm:i9 (ev s) mx=some m){id n i k cap:Nat}{ad ad':Option Addr}{ob:ae}{e:TypeId}(ho:s.o id=some ob)(hd:ob.dim=some (sz,e,n))(hown:c.own id=.slice ad n cap)(h5:i+k<=n)(h6:n<=cap)(h7:cap<=maxLen)(h8:i<cap->ad'=ad.map (·.add (i*sz)))(hp:b5u k (n-i) l hh m):
 ∃v,(Instr.sliceAt t (.slice ad' k (cap-i)) (lo.map a.eval) (hi.map a.eval) (mx.map a.eval)).run P w=.ok v w/\al c s.o (vd sz l hh m sz id n n i k).val v:=by
 have hbox:∀l,s.o id≠some (.box l):=fun l hb=>by
  rw[ho]at hb;simp only[bij]at hb;subst hb;cases hd
 have fin:∀(L H:Nat),L<=H->H<=n-i->c8 0 l=L->gw (c8 k hh) l=H-L->m=none ->
  al c s.o (vd sz l hh m sz id n n i k).val (.slice (if cap-i=L then ad' else ad'.map (·.add (L*sz))) (H-L) (cap-i-L)):=by
  intro L H q1 q2 q3 q4 q5;subst q5;simp only[vd,q3,q4];refine⟨rfl,hbox,fun ob2 s2 e2 n2 ho2 hd2=>?_⟩;rw[ho]at ho2;simp only[bij]at ho2;subst ho2;rw[hd]at hd2;simp only[bij,bim]at hd2;obtain⟨rfl,rfl,rfl⟩:=hd2;refine⟨bil _,fun _=>⟨ad,_,cap,hown,by rw[Nat.sub_sub],by omega,h6,h7,fun hlt=>?_⟩⟩;rw[if_neg bmq,h8 bmq,Option.map_map];congr 1;funext a;simp[ajb,bjt]
 have any:∀(ad:Option Addr) (n cap:Nat) (mm:Int),m=some mm->al c s.o (vd sz l hh m sz id n n i k).val (.slice ad n cap):=by
  intro ad n cap mm q;subst q;exact rfl
 obtain⟨p1,p2,p3⟩:=hp
 rcases go h hl with⟨rfl,eel⟩|⟨kl,nl,rfl,eel⟩<;>rcases go h hhi with⟨rfl,eh⟩|⟨kh,nh,rfl,eh⟩ <;>
  rcases go h hm with⟨rfl,em⟩|⟨km,nm,rfl,em⟩<;>rw[eel,eh,em]<;>simp only[c8]at p1 p2 p3
 · refine ⟨_, ?_,fin 0 k (bio _) bmq rfl rfl rfl⟩
   simp[Instr.sliceAt,run_underlying h2,Instr.slice,Instr.sliceBounds,hsz]
 · exact p3.1.elim
 · refine ⟨_, ?_,fin 0 nh.toNat (bio _) bmq rfl rfl rfl⟩
   have q2:0<=nh/\nh<=(cap-i:Nat):=by omega
   simp[Instr.sliceAt,run_underlying h2,Instr.slice,Instr.sliceBounds,hsz,bj w kh nh (cap-i) _ q2]
 · refine ⟨_, ?_,any (if nm.toNat=0 then ad' else ad'.map (·.add (0*sz))) (nh.toNat-0) (nm.toNat-0) _ rfl⟩
   have q2:0<=nm/\nm<=(cap-i:Nat):=by omega
   have q3:0<=nh/\nh<=(nm.toNat:Nat):=by omega
   simp[Instr.sliceAt,run_underlying h2,Instr.slice,Instr.sliceBounds,hsz,bj w km nm (cap-i) _ q2,bj w kh nh nm.toNat _ q3]
 · refine ⟨_, ?_,fin nl.toNat k bmq bmq rfl rfl rfl⟩
   have q1:0<=nl/\nl<=(k:Nat):=p1;simp[Instr.sliceAt,run_underlying h2,Instr.slice,Instr.sliceBounds,hsz,bj w kl nl k _ q1]
 · exact p3.1.elim
 · refine ⟨_, ?_,fin nl.toNat nh.toNat bmq bmq rfl rfl rfl⟩
   have q2:0<=nh/\nh<=(cap-i:Nat):=by omega
   have q1:0<=nl/\nl<=(nh.toNat:Nat):=by omega
   simp[Instr.sliceAt,run_underlying h2,Instr.slice,Instr.sliceBounds,hsz,bj w kh nh (cap-i) _ q2,bj w kl nl nh.toNat _ q1]
 refine⟨_, ?_,any (if nm.toNat=nl.toNat then ad' else ad'.map (·.add (nl.toNat*sz))) (nh.toNat-nl.toNat) (nm.toNat-nl.toNat) _ rfl⟩;have q2:0<=nm/\nm<=(cap-i:Nat):=by omega
 have q3:0<=nh/\nh<=(nm.toNat:Nat):=by omega
 have q1:0<=nl/\nl<=(nh.toNat:Nat):=by omega
 simp[Instr.sliceAt,run_underlying h2,Instr.slice,Instr.sliceBounds,hsz,bj w km nm (cap-i) _ q2,bj w kh nh nm.toNat _ q3,bj w kl nl nh.toNat _ q1]
def ala(hE:cb P E)(h:ai w0 nt c s a w)(hq:a6f E s.o (ev s) t x lo hi mx=some out)(hp:out.pre):
 ∃v,(Instr.sliceAt t (a.eval x) (lo.map a.eval) (hi.map a.eval) (mx.map a.eval)).run P w=.ok v w/\al c s.o out.val v:=by
 unfold a6f at hq;split at hq<;>try(cases hq;done)
 rename_i ti hti;split at hq<;>try(cases hq;done)
 rename_i el hk;split at hq<;>try(cases hq;done)
 rename_i ei hei;split at hq<;>try(cases hq;done)
 rename_i l hh m hl hhi hm;split at hq<;>try(cases hq;done)
 rename_i hv hx;obtain⟨ii,d,h1,h2,h3,_⟩:=aw (hE t ti hti);obtain rfl:=dj (h3.symm.trans hk);have hsz:=da (hE el ei hei) w;have hev:=af h hx
 have ofRef:∀(id n sz n':Nat) (ob:ae) (e:TypeId),s.o id=some ob->ob.dim=some (sz,e,n')->(∃ad cap,c.own id=.slice ad n' cap/\n'<=cap/\cap<=maxLen)->b9 c s.o (.ref id n) (a.eval x)->(vd ei.size l hh m sz id n' n 0 n).pre ->
  ∃v,(Instr.sliceAt t (a.eval x) (lo.map a.eval) (hi.map a.eval) (mx.map a.eval)).run P w=.ok v w/\al c s.o (vd ei.size l hh m sz id n' n 0 n).val v:=by
  rintro id n sz n' ob e ho hd ⟨ad,cap,hv,hc1,hc2⟩ hr ⟨rfl,hs,hw⟩;subst hs;have hu:=((hr.2.2 _ _ _ _ ho hd).2 rfl).trans hv;rw[hu];exact af4 (i:=0) (k:=n') (ad':=ad) h h2 hsz hl hhi hm ho hd hv bmq hc1 hc2 (fun _=>by cases ad<;>simp[a32]) hw
 have ofWin:∀(id n sz n' i k:Nat) (ob:ae) (e:TypeId),s.o id=some ob->ob.dim=some (sz,e,n')->b9 c s.o (.win id n i k) (a.eval x)->(vd ei.size l hh m sz id n' n i k).pre ->
  ∃v,(Instr.sliceAt t (a.eval x) (lo.map a.eval) (hi.map a.eval) (mx.map a.eval)).run P w=.ok v w/\al c s.o (vd ei.size l hh m sz id n' n i k).val v:=by
  rintro id n sz n' i k ob e ho hd hr ⟨rfl,hs,hw⟩;subst hs;obtain⟨ad,ad',cap,q1,q2,q3,q4,q5,q6⟩:=(hr.2.2 _ _ _ _ ho hd).2 rfl;rw[q2];exact af4 h h2 hsz hl hhi hm ho hd q1 q3 q4 q5 q6 hw
 unfold xu at hq;split at hq<;>try(cases hq;done)
 · split at hq<;>try(cases hq;done)
   · rename_i ho
     simp only[bij]at hq;subst hq;exact ofRef _ _ _ _ _ _ ho rfl (a65 (h.objs _ _ ho)) hev hp
   rename_i ho;simp only[bij]at hq;subst hq;exact ofRef _ _ _ _ _ _ ho rfl (a7z (h.objs _ _ ho)) hev hp
 split at hq<;>try(cases hq;done)
 · rename_i ho
   simp only[bij]at hq;subst hq;exact ofWin _ _ _ _ _ _ _ _ ho rfl hev hp
 rename_i ho;simp only[bij]at hq;subst hq;exact ofWin _ _ _ _ _ _ _ _ ho rfl hev hp
end
end
end
end Go.Hx
