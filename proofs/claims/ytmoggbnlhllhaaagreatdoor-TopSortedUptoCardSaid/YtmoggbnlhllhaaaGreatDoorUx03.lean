/- A part of the proof: Hx5. -/
import Derived.Laws.BytesArg
import Derived.Laws.Runes
import Derived.Test.YtmoggbnlhllhaaaGreatDoorUx02
set_option linter.all false
namespace Go.Hx
section
open Go.RowKit
def a52 (k:TK) (x y:HV):Option Bool :=
 match k,x,y with
 | .int _, .p (.raw (.int k a)), .p (.raw (.int k' b))=>match decide (k=k') with|true=>some (decide (a=b))|false=>none
 | .string, .p (.raw (.string a)), .p (.raw (.string b))=>some (decide (a=b))
 | .bool, .p (.raw (.bool a)), .p (.raw (.bool b))=>some (a==b)
 |_,_,_=>none
def a9n(E:Env)(xs ys:List HV):List (Nat×TypeId×Bool)->Option Bool
 | []=>some true
 | (off,ft,bl)::r =>
  match bl,E ft,xs[off]?,ys[off]? with
  | false,some fi,some x,some y =>
   match a52 fi.k x y with
   |some b=>match r with|[]=>some b|_=>(a9n E xs ys r).map fun b'=>b&&b'
   |none=>none
  |_,_,_,_=>none
def aq3 (E:Env) (t:TypeId) (xs ys:List HV):Option Bool :=
 match E t with
 | some i =>
  match i.k,i.stood,i.eqg with
  | .struct fs,false,false=>a9n E xs ys fs
  |_,_,_=>none
 |none=>none
def a6z (E:Env) (ex:Bool) (e:Ev) (op:BinOp) (t:TypeId) (x y:Operand):Option Out :=
 match e x,e y with
 | some (.v (.one (.p (.raw u)))),some (.v (.one (.p (.raw v)))) =>
  match b0i E ex op t u v with
  |some (pre,r)=>some ⟨pre,br (.raw r)⟩
  |none=>none
 | some (.v (.agg l)),some (.v (.agg l')) =>
  match op,aq3 E t l l' with
  | .eql,some b=>some ⟨True,br (.raw (.bool b))⟩
  | .neq,some b=>some ⟨True,br (.raw (.bool (!b)))⟩
  |_,_=>none
 |_,_=>none
def aeu (ex:Bool) (e:Ev) (op:UnOp) (x:Operand):Option Out :=
 match op,e x with
 | .neg,some (.v (.one (.p (.raw (.int k n)))))=>some ⟨(j4 ex k (0-n)).1,br (.raw (j4 ex k (0-n)).2)⟩
 | .xor,some (.v (.one (.p (.raw (.int k n)))))=>some ⟨True,br (.raw (.int k (cu .xor k (if k.signed then -1 else k.max) n)))⟩
 | .not,some (.v (.one (.p (.raw (.bool b)))))=>some ⟨True,br (.raw (.bool (!b)))⟩
 |_,_=>none
def ah4:PV->Int
 | .raw (.int _ k)=>k
 |_=>0
def adk(n:Nat)(f:Nat->Nat->PV):ByteArray:=strOfNums ((List.range n).map fun i=>ah4 (f i 0))
def bbo (E:Env):TK->Bool
 | .slice el=>match E el with|some ei=>(match ei.k with | .int .u8=>true|_=>false)|none=>false
 |_=>false
def a18 (E:Env) (ex:Bool) (e:Ev) (src dst:TypeId) (x:Operand):Option Out :=
 match E src,E dst,e x with
 | some _,some di,some (.v (.one (.p (.raw (.int _ n))))) =>
  match di.k with
  | .int k=>some ⟨(j4 ex k n).1,br (.raw (j4 ex k n).2)⟩
  | .string=>some ⟨True,br (.raw (.string (Utf8.encode n)))⟩
  |_=>none
 | some si,some di,some (.v (.one (.p (.sl n sz _ f)))) =>
  match di.k,bbo E si.k with
  | .string,true=>some ⟨sz=1/\∀i,i<n->∃k,f i 0=.raw (.int .u8 k),br (.raw (.string (adk n f)))⟩
  |_,_=>none
 | some _,some di,some (.v (.one (.p (.raw (.string b))))) =>
  match di.k with
  | .string=>some ⟨True,br (.raw (.string b))⟩
  |_=>none
 |_,_,_=>none
def iu (e:Ev):Option Operand->Option (Option Int)
 |none=>some none
 |some y=>match e y with|some (.v (.one (.p (.raw (.int _ n)))))=>some (some n)|_=>none
def c5 (n:Nat):Option Int->Nat
 |none=>n
 |some h=>h.toNat
def eo (n:Nat):Option Int->Nat
 |none=>n
 |some l=>n-l.toNat
def qr (f:Nat->Nat->PV):Option Int->Nat->Nat->PV
 |none=>f
 |some l=>fun i j=>f (l.toNat+i) j
def aiw (clip:Bool):Option Int->Option Int->Bool
 |some _,_=>true
 |none,none=>clip
 |none,some _=>false
def au2 (n:Nat) (lo hi mx:Option Int):Prop :=
 (match lo with|none=>True|some l=>0<=l/\l<=(c5 n hi:Nat))/\(match hi with|none=>True|some h=>0<=h/\h<=n)/\(match mx with|none=>True|some m=>hi=some m)
def lh(E:Env)(e:Ev)(t:TypeId)(x:Operand)(lo hi mx:Option Operand):Option Out :=
 match E t,e x,iu e lo,iu e hi,iu e mx with
 | some ti,some (.v (.one (.p (.raw (.string b))))),some l,some h,some none =>
  match ti.k with
  | .string=>some ⟨au2 b.size l h none,br (.raw (.string (b.extract (c5 0 l) (c5 b.size h))))⟩
  |_=>none
 | some ti,some (.v (.one (.p (.sl n sz c f)))),some l,some h,some m =>
  match ti.k with
  | .slice el =>
   match E el with
   |some ei=>some ⟨ei.size=sz/\au2 n l h m,br (.sl (eo (c5 n h) l) sz (aiw c m h) (qr f l))⟩
   |none=>none
  |_=>none
 |_,_,_,_,_=>none
def b88 (n C:Nat) (l h m:Option Int):Prop :=
 (match l with|none=>True|some l=>0<=l/\l<=(c5 n h:Nat))/\(match h with|none=>True|some h=>0<=h/\h<=C)/\(match m with|none=>True|some mm=>(match h with|none=>False|some hv=>hv<=mm)/\mm<=C)
def wq (size:Nat) (l h m:Option Int) (sz id n' n i k:Nat):Out :=
 ⟨n'=n/\size=sz/\b88 k (n-i) l h m,match m with|none=>.v (.one (.win id n (i+c5 0 l) (eo (c5 k h) l)))|some _=>br .any⟩
def ym (o:ap) (size:Nat) (l h m:Option Int):HV->Option Out
 | .ref id n =>
  match o id with
  |some (.arr _ sz _ n' _)=>some (wq size l h m sz id n' n 0 n)
  |some (.arrh sz _ n' _ _)=>some (wq size l h m sz id n' n 0 n)
  |_=>none
 | .win id n i k =>
  match o id with
  |some (.arr _ sz _ n' _)=>some (wq size l h m sz id n' n i k)
  |some (.arrh sz _ n' _ _)=>some (wq size l h m sz id n' n i k)
  |_=>none
 |_=>none
def a7s(E:Env)(o:ap)(e:Ev)(t:TypeId)(x:Operand)(lo hi mx:Option Operand):Option Out :=
 match E t with
 | some ti =>
  match ti.k with
  | .slice el =>
   match E el with
   | some ei =>
    match iu e lo,iu e hi,iu e mx with
    | some l,some hh,some m =>
     match e x with
     |some (.v (.one h))=>ym o ei.size l hh m h
     |_=>none
    |_,_,_=>none
   |none=>none
  |_=>none
 |none=>none
def ce(b:ByteArray)(i:Nat):Int:=((b.data.toList.getD i 0).toNat:Int)
def xj (E:Env) (e:Ev) (t:TypeId) (x ix:Operand):Option Out :=
 match E t,e x,e ix with
 | some ti,some (.v (.one (.p (.raw (.string b))))),some (.v (.one (.p (.raw (.int _ i))))) =>
  match ti.k with
  | .string=>some ⟨0<=i/\i<b.size,br (.raw (.int .u8 (ce b i.toNat)))⟩
  |_=>none
 |_,_,_=>none
def sw (e:Ev) (x:Operand) (i:Nat):Option Out :=
 match e x with
 |some (.tup l)=>match l[i]? with|some c=>some ⟨True, .v c⟩|none=>none
 |_=>none
def sq(E:Env)(e:Ev)(b:Builtin)(args:List Operand)(tys:List TypeId):Option Out :=
 match b,args,tys with
 | .len,[x],t::_ =>
  match E t with
  | some ti =>
   match ti.k,e x with
   | .string,some (.v (.one (.p (.raw (.string b)))))=>some ⟨True,br (.raw (.int .i64 b.size))⟩
   | .slice _,some (.v (.one (.p (.sl n _ _ _))))=>some ⟨True,br (.raw (.int .i64 n))⟩
   |_,_=>none
  |none=>none
 | .min,[x,y],_ =>
  match e x,e y with
  |some (.v (.one (.p (.raw (.int k a))))),some (.v (.one (.p (.raw (.int _ b)))))=>some ⟨True,br (.raw (.int k (if b<a then b else a)))⟩
  |_,_=>none
 | .max,[x,y],_ =>
  match e x,e y with
  |some (.v (.one (.p (.raw (.int k a))))),some (.v (.one (.p (.raw (.int _ b)))))=>some ⟨True,br (.raw (.int k (if a<b then b else a)))⟩
  |_,_=>none
 |_,_,_=>none
def a5b (o:ap):HV->Option Out
 | .ref id n =>
  match o id with
  |some (.arr _ _ _ n' _)=>some ⟨n'=n,br (.raw (.int .i64 n))⟩
  |some (.arrh _ _ n' _ _)=>some ⟨n'=n,br (.raw (.int .i64 n))⟩
  |some (.nest _ _ _ n' _ _ none)=>some ⟨n'=n,br (.raw (.int .i64 n))⟩
  |_=>none
 | .row id i k =>
  match o id with
  |some (.nest _ _ _ n m _ _)=>some ⟨i<n/\m i=k,br (.raw (.int .i64 k))⟩
  |_=>none
 | .win id n _ m =>
  match o id with
  |some (.arr _ _ _ n' _)=>some ⟨n'=n,br (.raw (.int .i64 m))⟩
  |some (.arrh _ _ n' _ _)=>some ⟨n'=n,br (.raw (.int .i64 m))⟩
  |_=>none
 |_=>none
def uy(E:Env)(o:ap)(e:Ev)(b:Builtin)(args:List Operand)(tys:List TypeId):Option Out :=
 match b,args,tys with
 | .len,[x],t::_ =>
  match E t with
  | some ti =>
   match ti.k with
   | .slice _ =>
    match e x with
    |some (.v (.one h))=>a5b o h
    |_=>none
   |_=>none
  |none=>none
 |_,_,_=>none
def bkg:HV->Option PV
 | .p x=>some x
 |_=>none
def zh (e:Ev):List Operand->Option (List PV)
 | []=>some []
 | x::r =>
  match e x,zh e r with
  |some (.v (.one (.p y))),some l=>some (y::l)
  |_,_=>none
def zo (e:Ev):List Operand->Option (List HV)
 | []=>some []
 | x::r =>
  match e x,zo e r with
  |some (.v (.one y)),some l=>some (y::l)
  |_,_=>none
def jq:List HV->Option (List PV)
 | []=>some []
 | .p x::r=>match jq r with|some l=>some (x::l)|none=>none
 |_::_=>none
def a0y (e:Ev) (fn:Fn) (first caps:List Operand):Option Out :=
 match fn,first with
 | .func f,[] =>
  match zh e caps with
  |some l=>some ⟨True,br (.fn f l.length fun i=>l.getD i .any)⟩
  |none=>match zo e caps with|some l=>some ⟨True, .v (.one (.clo f l.length fun i=>l.getD i (.p .any)))⟩|none=>none
 | .func f,[x] =>
  match caps,e x with
  | [],some (.v (.agg hs))=>match jq hs with|some l=>some ⟨True,br (.bnd f l.length fun i=>l.getD i .any)⟩|none=>none
  |_,_=>none
 |_,_=>none
def qt (o:ap) (e:Ev) (x:Operand):Option Out :=
 match e x with
 |some (.v (.one (.p (.fn g k c))))=>some ⟨True,br (.fn g k c)⟩
 |some (.v (.one (.clo g k c)))=>some ⟨True, .v (.one (.clo g k c))⟩
 |some (.v (.one h))=>match tgt o h with|some (p,_,_)=>some ⟨p, .v (.one h)⟩|none=>none
 |_=>none
def b1f (b:Bool):Option HR->Option HR->Option Out
 |some (.v (.one (.p (.raw (.bool x))))),some (.v (.one (.p (.raw (.bool y)))))=>some ⟨True,br (.raw (.bool (bif b then x else y)))⟩
 |some x,none=>some ⟨b=true,x⟩
 |some x,some (.tup [])=>some ⟨b=true,x⟩
 |none,some y=>some ⟨b=false,y⟩
 |some (.tup []),some y=>some ⟨b=false,y⟩
 |some x,some y=>match b with|true=>some ⟨True,x⟩|false=>some ⟨True,y⟩
 |none,none=>none
def a1c (e:Ev) (c x y:Operand):Option Out :=
 match e c with
 |some (.v (.one (.p (.raw (.bool b)))))=>b1f b (e x) (e y)
 |_=>none
def alq (op:BinOp) (n:Nat):Option Out :=
 match op with
 | .eql=>some ⟨0<n,br (.raw (.bool false))⟩
 | .neq=>some ⟨0<n,br (.raw (.bool true))⟩
 |_=>none
def a1d (op:BinOp) (ad:Option Addr):Option Out :=
 match op with
 | .eql=>some ⟨True,br (.raw (.bool ad.isNone))⟩
 | .neq=>some ⟨True,br (.raw (.bool (!ad.isNone)))⟩
 |_=>none
def va(E:Env)(e:Ev)(op:BinOp)(t:TypeId)(x y:Operand):Option Out :=
 match y with
 | .const (.slice none 0 0) =>
  match E t with
  | some i =>
   match i.k with
   | .slice _ =>
    match e x with
    |some (.v (.one (.p (.sl n _ _ _))))=>alq op n
    |some (.v (.one (.p (.raw (.slice ad _ _)))))=>a1d op ad
    |_=>none
   |_=>none
  |none=>none
 |_=>none
def acl (op:BinOp) (b:Bool):Option Out :=
 match op with
 | .eql=>some ⟨True,br (.raw (.bool b))⟩
 | .neq=>some ⟨True,br (.raw (.bool (!b)))⟩
 |_=>none
def a13 (o:ap) (op:BinOp):HV->Option Out
 | .ptr id _=>match o id with|some (.box _)=>acl op false|_=>none
 | .p (.raw (.pointer p))=>acl op p.isNone
 |_=>none
def kc(E:Env)(o:ap)(e:Ev)(op:BinOp)(t:TypeId)(x y:Operand):Option Out :=
 match y with
 | .const (.pointer none) =>
  match E t with
  | some i =>
   match i.k with
   | .pointer _ =>
    match e x with
    |some (.v (.one h))=>a13 o op h
    |_=>none
   |_=>none
  |none=>none
 |_=>none
def yj (E:Env):List (Nat×TypeId×Bool)->Option (List (Nat×Nat))
 | []=>some []
 | (off,ft,_)::r =>
  match E ft,yj E r with
  |some fi,some l=>some ((off,fi.size)::l)
  |_,_=>none
def HC.cells:HC->List HV
 | .one h=>[h]
 | .agg l=>l
def bn(l:List HV)(off:Nat)(new:List HV):List HV:=l.take off++new++l.drop (off+new.length)
def go(e:Ev)(places:List (Nat×Nat))(cells:List HV):List (Nat×Operand)->Option (List HV)
 | []=>some cells
 | (i,x)::r =>
  match places[i]?,e x with
  | some (off,size),some (.v c) =>
   match decide (c.cells.length=size),decide (off+size<=cells.length) with
   |true,true=>go e places (bn cells off c.cells) r
   |_,_=>none
  |_,_=>none
def xp(E:Env)(e:Ev)(t:TypeId)(parts:List (Nat×Operand)):Option Out :=
 match E t with
 | some i =>
  match i.k,i.zero with
  | .struct fs,some z =>
   match yj E fs,ot z with
   | some places,true =>
    match go e places (z.map fun c=>.p (l7 c)) parts with
    |some l=>some ⟨True, .v (.agg l)⟩
    |none=>none
   |_,_=>none
  | .array n el,some z =>
   match E el,ot z with
   | some ie,true =>
    match go e ((List.range n).map fun k=>(k*ie.size,ie.size)) (z.map fun c=>.p (l7 c)) parts with
    |some l=>some ⟨True, .v (.agg l)⟩
    |none=>none
   |_,_=>none
  |_,_=>none
 |none=>none
def aar:TK->Option KK
 | .int q=>some (.int q)
 | .string=>some .str
 |_=>none
def axj{k:TK}{kk:KK}(h:aar k=some kk)(b:Nat):kk.has b:=by cases k<;>simp[aar]at h<;>subst h<;>trivial
def aqc:Value->Option MK
 | .int q n=>some (.i q n)
 | .string b=>some (.s b)
 |_=>none
def ajd {v:Value} {m:MK} (h:aqc v=some m):m.val=v:=by
 cases v<;>simp[aqc]at h<;>subst h<;>rfl
def a2l(f:MK->Option PV)(m:MK)(z:Value):PV:=match f m with|some y=>y|none=>l7 z
def a6h(f:MK->Option PV)(m:MK):Bool:=match f m with|some _=>true|none=>false
def a1h(has:MK->Bool)(f:MK->PV)(m:MK)(z:Value):PV:=match has m with|true=>f m|false=>l7 z
def abg(o:ap)(kk:KK)(m:MK)(z:Value)(cm:Bool):HV->Option Out
 | .p (.mp kk' _ has f) =>
  match cm with
  |true=>some ⟨kk'=kk/\MK.ok kk m, .tup [.one (.p (a1h has f m z)), .one (.p (.raw (.bool (has m))))]⟩
  |false=>some ⟨kk'=kk/\MK.ok kk m, .v (.one (.p (a1h has f m z)))⟩
 | .ref id _ =>
  match o id with
  | some (.mp kk' _ f) =>
   match cm with
   |true=>some ⟨kk'=kk/\MK.ok kk m, .tup [.one (.p (a2l f m z)), .one (.p (.raw (.bool (a6h f m))))]⟩
   |false=>some ⟨kk'=kk/\MK.ok kk m, .v (.one (.p (a2l f m z)))⟩
  |_=>none
 |_=>none
def ahb (E:Env) (kt et:TypeId):Option (KK×Value) :=
 match E kt,E et with
 | some ki,some ei =>
  match aar ki.k,ei.zero,ei.zone with
  |some kk,some [z],true=>some (kk,z)
  |_,_,_=>none
 |_,_=>none
def k8(E:Env)(o:ap)(e:Ev)(t:TypeId)(x ix:Operand)(cm:Bool):Option Out :=
 match E t with
 | some i =>
  match i.k with
  | .map kt et =>
   match ahb E kt et with
   | some (kk,z) =>
    match e ix with
    | some (.v (.one (.p (.raw kv)))) =>
     match aqc kv with
     | some m =>
      match e x with
      |some (.v (.one h))=>abg o kk m z cm h
      |_=>none
     |none=>none
    |_=>none
   |none=>none
  |_=>none
 |none=>none
def hq (E:Env) (ex:Bool) (o:ap) (e:Ev):Op->Option Out
 | .move x=>(e x).map fun r=>⟨True,r⟩
 | .assign x=>(e x).map fun r=>⟨True,r⟩
 | .pick c x y=>a1c e c x y
 | .nilCheck x=>qt o e x
 | .load t x=>n7 E o e t x
 | .fieldAddr t x k=>fj E o e t x k
 | .field t x k=>xl E e t x k
 | .indexAddr t x i=>fz E o e t x i
 | .index t x i=>xj E e t x i
 | .lookup t x i cm=>k8 E o e t x i cm
 | .binOp op t x y _=>match va E e op t x y with|some r=>some r|none=>match kc E o e op t x y with|some r=>some r|none=>a6z E ex e op t x y
 | .unOp op _ x=>aeu ex e op x
 | .convert s d x=>a18 E ex e s d x
 | .extract x i=>sw e x i
 | .slice t x lo hi mx=>match lh E e t x lo hi mx with|some r=>some r|none=>a7s E o e t x lo hi mx
 | .makeFunc fn first caps=>a0y e fn first.toList caps.toList
 | .build t parts=>xp E e t parts.toList
 | .call c =>
  match c.callee with
  | .builtin b=>match sq E e b c.args.toList c.argTypes.toList with|some r=>some r|none=>uy E o e b c.args.toList c.argTypes.toList
  |_=>none
 |_=>none
section
variable {P:Program}{E:Env}{w0:World}{nt:Nat}{c:Ctx}{s:S}{a:Act}{w:World}
def dl{c:Ctx}{o:ap}{v:Value}(h:v.oneCell'=true):ak c o (br (.raw v)) v:=⟨rfl,h⟩
section
variable {t:TypeId}
def akr(hE:ck P E){fi:TI}(hi:E t=some fi){x y:HV}{b:Bool}(hl:a52 fi.k x y=some b){o:ap}{u v:Value}(hu:b9 c o x u)(hv:b9 c o y v)(d:Nat)(w:World):
 (Op.equalIn (d+1) t u v).run P w=.ok b w:=by
 obtain⟨ii,dd,h1,h2,h3,_⟩:=ay (hE t fi hi);unfold a52 at hl;split at hl<;>try(cases hl;done)
 · rename_i hk
   split at hl<;>try(cases hl;done)
   rename_i hkk;have hkk:=of_decide_eq_true hkk;subst hkk;simp only[bly]at hl;subst hl;obtain⟨rfl,_⟩:=hu;obtain⟨rfl,_⟩:=hv;have:∃k',dd=.int k':=by cases dd<;>simp_all [gu]
   obtain⟨k',rfl⟩:=this;rw[run_equalIn_int w d t _ k' _ _ h2];congr 1
 · rename_i hk
   simp only[bly]at hl;subst hl;obtain⟨rfl,_⟩:=hu;obtain⟨rfl,_⟩:=hv;have:dd=.string:=by cases dd<;>simp_all [gu]
   subst this;rw[run_equalIn_string w d t _ _ h2,yi]
 rename_i hk;simp only[bly]at hl;subst hl;obtain⟨rfl,_⟩:=hu;obtain⟨rfl,_⟩:=hv;have:dd=.bool:=by cases dd<;>simp_all [gu]
 subst this;exact run_equalIn_bool w d t _ _ h2
def amp {k:TK} {x y:HV} {b:Bool} (h:a52 k x y=some b):k.isAgg=false:=by
 cases k<;>simp_all [a52,TK.isAgg]
theorem abs (hE:ck P E) {o:ap} {xs ys:List HV} {us vs:List Value} (hx:b7 c o xs us) (hy:b7 c o ys vs) (d:Nat) (w:World) :
 ∀ (fs : List Field) (b : Bool), a9n E xs ys (fs.map fun f => (f.offset, f.type, f.name == "_")) = some b -> (Op.eqFields (d + 1) us.toArray vs.toArray fs).run P w = .ok b w
 | [],b,h=>by simp[a9n]at h;subst h;simp[Op.eqFields]
 | f :: fs,b,h=>by
  simp only[bnr,a9n]at h;split at h<;>try(cases h;done)
  rename_i fi x y hbl hfi hxo hyo;have hname : f.name ≠ "_" := by simpa using hbl
  split at h<;>try(cases h;done)
  rename_i bb hleaf;obtain⟨u,hu,hru⟩:=hx.get _ _ hxo;obtain⟨v,hv,hrv⟩:=hy.get _ _ hyo;have hag:=amp hleaf;obtain⟨mu,pu⟩:=vj (P:=P) (hE _ _ hfi) us f.offset w;obtain⟨mv,pv⟩:=vj (P:=P) (hE _ _ hfi) vs f.offset w;rw[hag,hu]at pu;rw[hag,hv]at pv;have he:=akr hE hfi hleaf hru hrv d w
  have key : ∀ bb', (match fs.map (fun f => (f.offset, f.type, f.name == "_")) with | [] => some bb | _ => (a9n E xs ys (fs.map fun f => (f.offset, f.type, f.name == "_"))).map fun b' => bb && b') = some bb' ->
   (Op.eqFields (d+1) us.toArray vs.toArray (f::fs)).run P w=.ok bb' w:=by
   intro bb' hb;simp only[Op.eqFields,ne_eq,hname,not_false_eq_true,if_true,bmz,pu,pv,bp6,if_false,bmf,he,Sem.run_ite,bnh];split at hb
   · rename_i hnil
     simp only[List.map_eq_nil_iff]at hnil;subst hnil;simp only[bly]at hb;subst hb;cases bb<;>simp[Op.eqFields]
   cases hr : a9n E xs ys (fs.map fun f => (f.offset, f.type, f.name == "_")) with
   |none=>rw[hr]at hb;cases hb
   | some b' =>
    rw[hr]at hb;simp only[bmq,bly]at hb;subst hb;have ih:=abs hE hx hy d w fs b' hr
    grind
  exact key b h
variable {ex:Bool}{out:Out}{x:Operand}
def amo(hE:ck P E)(h:ag w0 nt c s a w){op:BinOp}{y:Operand}(hq:a6z E ex (ev s) op t x y=some out)(hp:out.pre):
 ∃v,(do eqGuard op t x y (a.eval x) (a.eval y);binOp op t (a.eval x) (a.eval y):Sem Value).run P w=.ok v w/\ak c s.o out.val v:=by
 unfold a6z at hq;split at hq<;>try(cases hq;done)
 · rename_i u v hx hy
   split at hq<;>try(cases hq;done)
   rename_i pre r hb;simp only[bly]at hq;subst hq;obtain⟨e1,_⟩:=ae h hx;obtain⟨e2,_⟩:=ae h hy;rw[e1,e2];obtain⟨h1,h2⟩:=as0 (x:=x) (y:=y) hE hb hp w;exact⟨r,h1,dl h2⟩
 rename_i l l' hx hy;obtain⟨us,e1,r1⟩:=ae h hx;obtain⟨vs,e2,r2⟩:=ae h hy
 have core:∀b,aq3 E t l l'=some b->(eqGuard op t x y (.agg us.toArray) (.agg vs.toArray)).run P w=.ok () w/\(Op.equalIn 10000 t (.agg us.toArray) (.agg vs.toArray)).run P w=.ok b w:=by
  intro b hb;unfold aq3 at hb;split at hb<;>try(cases hb;done)
  rename_i i hi;split at hb<;>try(cases hb;done)
  rename_i fs hk hst heg;obtain⟨ii,d,h1,h2,h3,h4,h5,h6,h7,h8⟩:=ay (hE t i hi);obtain⟨fa,rfl,hfa⟩:=vg (h3.symm.trans hk);rw[hst]at h7;rw[heg]at h8;refine⟨run_eqGuard_agg w op t x y _ _ h8.symm, ?_⟩;have hfo:P.fieldsOf t=fa:=by simp[Program.fieldsOf,h2]
  rw[run_equalIn_struct w 9999 t _ _ (by rw[hfo];exact h2) h7.symm,hfo];rw[hfa]at hb;exact abs hE r1 r2 9998 w fa.toList b hb
 rw[e1,e2];split at hq<;>try(cases hq;done)
 · rename_i b hb
   simp only[bly]at hq;subst hq;obtain⟨g1,g2⟩:=core b hb;refine⟨.bool b, ?_,dl rfl⟩;rw[bmz,g1,bmf,run_eql_struct,g2,bmf]
 rename_i b hb;simp only[bly]at hq;subst hq;obtain⟨g1,g2⟩:=core b hb;refine⟨.bool (!b), ?_,dl rfl⟩;rw[bmz,g1,bmf,run_neq_struct,g2,bmf]
def vh {k:IntKind} {n:Int} (hp:(j4 ex k n).1):(j4 ex k n).2=.int k (k.wrap n):=by
 cases ex
 · rfl
 simp only[j4]at hp ⊢;rw[rp hp]
def aru(h:ag w0 nt c s a w){op:UnOp}(hq:aeu ex (ev s) op x=some out)(hp:out.pre):
 ∃v,(Op.unary op (a.eval x)).run P w=.ok v w/\ak c s.o out.val v:=by
 unfold aeu at hq;split at hq<;>try(cases hq;done)
 · rename_i k n hx
   simp only[bly]at hq;subst hq;obtain⟨e1,_⟩:=ae h hx;rw[e1];refine⟨_, ?_,dl (by rw[vh hp];rfl)⟩;rw[vh hp];simp[Op.unary,Op.intArith]
 · rename_i k n hx
   simp only[bly]at hq;subst hq;obtain⟨e1,_⟩:=ae h hx;rw[e1];exact⟨_,by simp[Op.unary,Op.intBits,cu],dl rfl⟩
 rename_i b hx;simp only[bly]at hq;subst hq;obtain⟨e1,_⟩:=ae h hx;rw[e1];exact⟨_,by simp[Op.unary],dl rfl⟩
def ahs(hE:ck P E)(h:ag w0 nt c s a w){src dst:TypeId}(hq:a18 E ex (ev s) src dst x=some out)(hp:out.pre):
 ∃v,(convert src dst (a.eval x)).run P w=.ok v w/\ak c s.o out.val v:=by
 unfold a18 at hq;split at hq<;>try(cases hq;done)
 · rename_i si di k n hs hd hx
   obtain⟨e1,_⟩:=ae h hx;rw[e1];obtain⟨ii,d,h1,h2,h3,_⟩:=ay (hE dst di hd);obtain⟨ii',d',h1',h2',h3',_⟩:=ay (hE src si hs);split at hq<;>try(cases hq;done)
   · rename_i k' hk
     simp only[bly]at hq;subst hq;have:d=.int k':=by cases d<;>simp_all [gu]
     subst this;refine⟨_, ?_,dl (by rw[vh hp];rfl)⟩;rw[vh hp];simp[convert,run_underlying h2,run_underlying h2',Conv.intToInt]
   rename_i hk;simp only[bly]at hq;subst hq;have:d=.string:=by cases d<;>simp_all [gu]
   subst this;exact⟨_,run_convert_int_string w src dst k n (by rw[h2'];rfl) h2,dl rfl⟩
 · rename_i si di n sz cl f hs hd hx
   split at hq<;>try(cases hq;done)
   rename_i hk hu;simp only[bly]at hq;subst hq;obtain⟨rfl,hp⟩:=hp;obtain⟨ii,d,h1,h2,h3,_⟩:=ay (hE dst di hd);obtain⟨ii',d',h1',h2',h3',_⟩:=ay (hE src si hs);have:d=.string:=by cases d<;>simp_all [gu]
   subst this;unfold bbo at hu;split at hu<;>try(cases hu;done)
   rename_i el hel;split at hu<;>try(cases hu;done)
   rename_i ei hei;split at hu<;>try(cases hu;done)
   rename_i hek;obtain⟨ii2,d2,h12,h22,h32,_⟩:=ay (hE el ei hei);have:d'=.slice el:=by cases d'<;>simp_all [gu]
   subst this;have:d2=.int .u8:=by cases d2<;>simp_all [gu]
   subst this;obtain⟨ad,cap,e1,_,_,_,e5⟩:=ae h hx;rw[e1];by_cases hn:n=0
   · subst hn
     cases ad with
     |none=>exact⟨_,run_convert_bytes_nil w src el h2' h22 0 cap dst h2,dl rfl⟩
     | some ad =>
      refine⟨_, ?_,dl rfl⟩;rw[run_convert_bytes_string w src dst el _ 0 cap h2' h22 h2];have hl:(loadCells ad 0).run P w=.ok #[] w:=run_loadCells_list (P:=P) w ad [] (fun j v hj=>by simp at hj);have:=run_bytesToString (P:=P) w ad 0 cap [] (by simpa using hl);rw[this];rfl
   obtain⟨b,off,rfl,hc⟩:=e5 bpw;refine⟨_,run_convert_bytes_arg w src el h2' h22 b off n cap ((List.range n).map fun i=>ah4 (f i 0)) bpz (fun i hi=>?_) dst h2,dl rfl⟩;obtain⟨x,hx,hr⟩:=hc i 0 hi bpw;obtain⟨k,hk⟩:=hp i hi;rw[hk]at hr;have hx':=vf h hx;rw[bp2,bnt]at hx';rw[hx',hr.1];simp[List.getD,bn1,bo0 hi,hk,ah4]
 rename_i si di b hs hd hx;split at hq<;>try(cases hq;done)
 rename_i hk;simp only[bly]at hq;subst hq;obtain⟨e1,_⟩:=ae h hx;rw[e1];obtain⟨ii,d,h1,h2,h3,_⟩:=ay (hE dst di hd);obtain⟨ii',d',h1',h2',h3',_⟩:=ay (hE src si hs);have:d=.string:=by cases d<;>simp_all [gu]
 subst this;exact⟨_,by simp[convert,run_underlying h2,run_underlying h2'],dl rfl⟩
def i9 (h:ag w0 nt c s a w) {x:Option Operand} {r:Option Int} (hx:iu (ev s) x=some r) :
 (r=none/\x.map a.eval=none)\/∃k n,r=some n/\x.map a.eval=some (.int k n):=by
 cases x with
 |none=>simp[iu]at hx;exact .inl ⟨hx.symm,rfl⟩
 | some y =>
  simp only[iu]at hx;split at hx<;>try(cases hx;done)
  rename_i k n hy;simp only[bly]at hx;obtain⟨e1,_⟩:=ae h hy;exact .inr ⟨k,n,hx.symm,by simp[e1]⟩
def bq (w:World) (k:IntKind) (n:Int) (y:Nat) (cd:BoundsCode) (h:0<=n/\n<=y):(Instr.sliceBound (.int k n) y cd).run P w=.ok n.toNat w:=by
 simp[Instr.sliceBound,asIntOf,h]
variable {hi lo mx:Option Operand}
def a41(hE:ck P E)(h:ag w0 nt c s a w)(hq:lh E (ev s) t x lo hi mx=some out)(hp:out.pre):
 ∃v,(Instr.sliceAt t (a.eval x) (lo.map a.eval) (hi.map a.eval) (mx.map a.eval)).run P w=.ok v w/\ak c s.o out.val v:=by
 unfold lh at hq;split at hq<;>try(cases hq;done)
 · rename_i ti b l hh hti hx hl hhi hm
   split at hq<;>try(cases hq;done)
   rename_i hk;simp only[bly]at hq;subst hq;obtain⟨p1,p2,_⟩:=hp;obtain⟨e1,_⟩:=ae h hx;obtain⟨ii,d,h1,h2,h3,_⟩:=ay (hE t ti hti);have:d=.string:=by cases d<;>simp_all [gu]
   subst this
   have hm':mx.map a.eval=none:=by
    rcases i9 h hm with⟨_,e⟩|⟨k,n,e,_⟩
    · exact e
    cases e
   rw[e1,hm'];refine⟨.string (b.extract (c5 0 l) (c5 b.size hh)), ?_,dl rfl⟩
   rcases i9 h hl with⟨rfl,el⟩|⟨kl,nl,rfl,el⟩<;>rcases i9 h hhi with⟨rfl,eh⟩|⟨kh,nh,rfl,eh⟩<;>rw[el,eh] <;>
    simp only[c5]at p1 p2 ⊢
   · simp[Instr.sliceAt,run_underlying h2,Instr.slice,Instr.sliceBounds]
   · simp[Instr.sliceAt,run_underlying h2,Instr.slice,Instr.sliceBounds,bq w kh nh b.size _ p2]
   · simp[Instr.sliceAt,run_underlying h2,Instr.slice,Instr.sliceBounds,bq w kl nl b.size _ p1]
   have p1':0<=nl/\nl<=(nh.toNat:Nat):=p1;simp[Instr.sliceAt,run_underlying h2,Instr.slice,Instr.sliceBounds,bq w kh nh b.size _ p2,bq w kl nl nh.toNat _ p1']
 rename_i ti n sz cl f l hh m hti hx hl hhi hm;split at hq<;>try(cases hq;done)
 rename_i el hk;split at hq<;>try(cases hq;done)
 rename_i ei hei;simp only[bly]at hq;subst hq;obtain⟨hs,p1,p2,p3⟩:=hp;obtain⟨ad,cap,e1,hcap,hmax,hclip,hc⟩:=ae h hx;obtain⟨ii,d,h1,h2,h3,_⟩:=ay (hE t ti hti);obtain rfl:=dw (h3.symm.trans hk);have hsz:=dm (hE el ei hei) w;rw[e1]
 have fin:∀(L H M:Nat),L<=H->H<=n->H<=M->M<=cap->eo (c5 n hh) l=H-L->(∀i j,qr f l i j=f (L+i) j)->(aiw cl m hh=true->M=H) ->
  ak c s.o (br (.sl (eo (c5 n hh) l) sz (aiw cl m hh) (qr f l))) (.slice (if M=L then ad else ad.map (·.add (L*ei.size))) (H-L) (M-L)):=by
  intro L H M h1 h2 h3 h4 hn hf hcl;refine⟨_,M-L,by rw[hn],by omega,by omega,fun h=>by have:=hcl h;omega,fun hpos=>?_⟩;rw[hn]at hpos;rw[if_neg bpw];obtain⟨b,off,rfl,hcell⟩:=hc bpw;refine⟨b,off+L*ei.size,by simp[d6],fun i j hi hj=>?_⟩;obtain⟨u,hu,hr⟩:=hcell (L+i) j bpw hj;refine⟨u, ?_,by rw[hf];exact hr⟩;rw[hs,bo2 off,<- bo2 (L*sz),<- bng];exact hu
 have hM:∀(k:IntKind) (mm:Int),m=some mm->∃hv,hh=some hv/\mm=hv:=fun k mm e=>by
  subst e;exact⟨mm,p3,rfl⟩
 rcases i9 h hl with⟨rfl,eel⟩|⟨kl,nl,rfl,eel⟩<;>rcases i9 h hhi with⟨rfl,eh⟩|⟨kh,nh,rfl,eh⟩ <;>
  rcases i9 h hm with⟨rfl,em⟩|⟨km,nm,rfl,em⟩<;>rw[eel,eh,em]<;>simp only[c5]at p1 p2 p3
 · refine ⟨_, ?_,fin 0 n cap (bm3 _) (bm1 _) hcap (bm1 _) rfl (fun i j=>by simp[qr]) (fun h=>hclip h)⟩
   simp[Instr.sliceAt,run_underlying h2,Instr.slice,Instr.sliceBounds,hsz]
 · cases p3
 · refine ⟨_, ?_,fin 0 nh.toNat cap (bm3 _) bpw bpw (bm1 _) rfl (fun i j=>by simp[qr]) (fun h=>by cases h)⟩
   have q2:0<=nh/\nh<=(cap:Nat):=by omega
   simp[Instr.sliceAt,run_underlying h2,Instr.slice,Instr.sliceBounds,hsz,bq w kh nh cap _ q2]
 · simp only [bly]at p3
   subst p3;refine⟨_, ?_,fin 0 nh.toNat nh.toNat (bm3 _) bpw bpw bpw rfl (fun i j=>by simp[qr]) (fun _=>rfl)⟩;have q2:0<=nh/\nh<=(cap:Nat):=by omega
   have q3:0<=nh/\nh<=(nh.toNat:Nat):=by omega
   simp[Instr.sliceAt,run_underlying h2,Instr.slice,Instr.sliceBounds,hsz,bq w km nh cap _ q2,bq w kh nh nh.toNat _ q3]
 · refine ⟨_, ?_,fin nl.toNat n cap bpw (bm1 _) hcap (bm1 _) rfl (fun i j=>rfl) (fun h=>hclip h)⟩
   have q1:0<=nl/\nl<=(n:Nat):=p1;simp[Instr.sliceAt,run_underlying h2,Instr.slice,Instr.sliceBounds,hsz,bq w kl nl n _ q1]
 · cases p3
 · refine ⟨_, ?_,fin nl.toNat nh.toNat cap bpw bpw bpw (bm1 _) rfl (fun i j=>rfl) (fun h=>by cases h)⟩
   have q2:0<=nh/\nh<=(cap:Nat):=by omega
   have q1:0<=nl/\nl<=(nh.toNat:Nat):=by omega
   simp[Instr.sliceAt,run_underlying h2,Instr.slice,Instr.sliceBounds,hsz,bq w kh nh cap _ q2,bq w kl nl nh.toNat _ q1]
 simp only[bly]at p3;subst p3;refine⟨_, ?_,fin nl.toNat nh.toNat nh.toNat bpw bpw bpw bpw rfl (fun i j=>rfl) (fun _=>rfl)⟩;have q2:0<=nh/\nh<=(cap:Nat):=by omega
 have q3:0<=nh/\nh<=(nh.toNat:Nat):=by omega
 have q1:0<=nl/\nl<=(nh.toNat:Nat):=by omega
 simp[Instr.sliceAt,run_underlying h2,Instr.slice,Instr.sliceBounds,hsz,bq w km nh cap _ q2,bq w kh nh nh.toNat _ q3,bq w kl nl nh.toNat _ q1]
theorem am5 (a:Addr) (x y:Nat):(a.add x).add y=a.add (x+y):=by
 unfold Addr.add
 grind
def a49(a:Addr):a.add 0=a:=by unfold Addr.add;simp
def agc(h:ag w0 nt c s a w){el:TypeId}{sz:Nat}(h2:P.underlying t=some (.slice el))(hsz:(sizeOf el).run P w=.ok sz w){l hh m:Option Int}(hl:iu (ev s) lo=some l)(hhi:iu (ev s) hi=some hh)(hm:iu (ev s) mx=some m){id n i k cap:Nat}{ad ad':Option Addr}{ob:aa}{e:TypeId}(ho:s.o id=some ob)(hd:ob.dim=some (sz,e,n))(hown:c.own id=.slice ad n cap)(h5:i+k<=n)(h6:n<=cap)(h7:cap<=maxLen)(h8:i<cap->ad'=ad.map (·.add (i*sz)))(hp:b88 k (n-i) l hh m):
 ∃v,(Instr.sliceAt t (.slice ad' k (cap-i)) (lo.map a.eval) (hi.map a.eval) (mx.map a.eval)).run P w=.ok v w/\ak c s.o (wq sz l hh m sz id n n i k).val v:=by
 have hbox:∀l,s.o id≠some (.box l):=fun l hb=>by
  rw[ho]at hb;simp only[bly]at hb;subst hb;cases hd
 have fin:∀(L H:Nat),L<=H->H<=n-i->c5 0 l=L->eo (c5 k hh) l=H-L->m=none ->
  ak c s.o (wq sz l hh m sz id n n i k).val (.slice (if cap-i=L then ad' else ad'.map (·.add (L*sz))) (H-L) (cap-i-L)):=by
  intro L H q1 q2 q3 q4 q5;subst q5;simp only[wq,q3,q4];refine⟨rfl,hbox,fun ob2 s2 e2 n2 ho2 hd2=>?_⟩;rw[ho]at ho2;simp only[bly]at ho2;subst ho2;rw[hd]at hd2;simp only[bly,bm4]at hd2;obtain⟨rfl,rfl,rfl⟩:=hd2;refine⟨bm1 _,fun _=>⟨ad,_,cap,hown,by rw[Nat.sub_sub],by omega,h6,h7,fun hlt=>?_⟩⟩;rw[if_neg bpw,h8 bpw,Option.map_map];congr 1;funext a;simp[am5,bng]
 have any:∀(ad:Option Addr) (n cap:Nat) (mm:Int),m=some mm->ak c s.o (wq sz l hh m sz id n n i k).val (.slice ad n cap):=by
  intro ad n cap mm q;subst q;exact rfl
 obtain⟨p1,p2,p3⟩:=hp
 rcases i9 h hl with⟨rfl,eel⟩|⟨kl,nl,rfl,eel⟩<;>rcases i9 h hhi with⟨rfl,eh⟩|⟨kh,nh,rfl,eh⟩ <;>
  rcases i9 h hm with⟨rfl,em⟩|⟨km,nm,rfl,em⟩<;>rw[eel,eh,em]<;>simp only[c5]at p1 p2 p3
 · refine ⟨_, ?_,fin 0 k (bm3 _) bpw rfl rfl rfl⟩
   simp[Instr.sliceAt,run_underlying h2,Instr.slice,Instr.sliceBounds,hsz]
 · exact p3.1.elim
 · refine ⟨_, ?_,fin 0 nh.toNat (bm3 _) bpw rfl rfl rfl⟩
   have q2:0<=nh/\nh<=(cap-i:Nat):=by omega
   simp[Instr.sliceAt,run_underlying h2,Instr.slice,Instr.sliceBounds,hsz,bq w kh nh (cap-i) _ q2]
 · refine ⟨_, ?_,any (if nm.toNat=0 then ad' else ad'.map (·.add (0*sz))) (nh.toNat-0) (nm.toNat-0) _ rfl⟩
   have q2:0<=nm/\nm<=(cap-i:Nat):=by omega
   have q3:0<=nh/\nh<=(nm.toNat:Nat):=by omega
   simp[Instr.sliceAt,run_underlying h2,Instr.slice,Instr.sliceBounds,hsz,bq w km nm (cap-i) _ q2,bq w kh nh nm.toNat _ q3]
 · refine ⟨_, ?_,fin nl.toNat k bpw bpw rfl rfl rfl⟩
   have q1:0<=nl/\nl<=(k:Nat):=p1;simp[Instr.sliceAt,run_underlying h2,Instr.slice,Instr.sliceBounds,hsz,bq w kl nl k _ q1]
 · exact p3.1.elim
 · refine ⟨_, ?_,fin nl.toNat nh.toNat bpw bpw rfl rfl rfl⟩
   have q2:0<=nh/\nh<=(cap-i:Nat):=by omega
   have q1:0<=nl/\nl<=(nh.toNat:Nat):=by omega
   simp[Instr.sliceAt,run_underlying h2,Instr.slice,Instr.sliceBounds,hsz,bq w kh nh (cap-i) _ q2,bq w kl nl nh.toNat _ q1]
 refine⟨_, ?_,any (if nm.toNat=nl.toNat then ad' else ad'.map (·.add (nl.toNat*sz))) (nh.toNat-nl.toNat) (nm.toNat-nl.toNat) _ rfl⟩;have q2:0<=nm/\nm<=(cap-i:Nat):=by omega
 have q3:0<=nh/\nh<=(nm.toNat:Nat):=by omega
 have q1:0<=nl/\nl<=(nh.toNat:Nat):=by omega
 simp[Instr.sliceAt,run_underlying h2,Instr.slice,Instr.sliceBounds,hsz,bq w km nm (cap-i) _ q2,bq w kh nh nm.toNat _ q3,bq w kl nl nh.toNat _ q1]
def ama(hE:ck P E)(h:ag w0 nt c s a w)(hq:a7s E s.o (ev s) t x lo hi mx=some out)(hp:out.pre):
 ∃v,(Instr.sliceAt t (a.eval x) (lo.map a.eval) (hi.map a.eval) (mx.map a.eval)).run P w=.ok v w/\ak c s.o out.val v:=by
 unfold a7s at hq;split at hq<;>try(cases hq;done)
 rename_i ti hti;split at hq<;>try(cases hq;done)
 rename_i el hk;split at hq<;>try(cases hq;done)
 rename_i ei hei;split at hq<;>try(cases hq;done)
 rename_i l hh m hl hhi hm;split at hq<;>try(cases hq;done)
 rename_i hv hx;obtain⟨ii,d,h1,h2,h3,_⟩:=ay (hE t ti hti);obtain rfl:=dw (h3.symm.trans hk);have hsz:=dm (hE el ei hei) w;have hev:=ae h hx
 have ofRef:∀(id n sz n':Nat) (ob:aa) (e:TypeId),s.o id=some ob->ob.dim=some (sz,e,n')->(∃ad cap,c.own id=.slice ad n' cap/\n'<=cap/\cap<=maxLen)->b9 c s.o (.ref id n) (a.eval x)->(wq ei.size l hh m sz id n' n 0 n).pre ->
  ∃v,(Instr.sliceAt t (a.eval x) (lo.map a.eval) (hi.map a.eval) (mx.map a.eval)).run P w=.ok v w/\ak c s.o (wq ei.size l hh m sz id n' n 0 n).val v:=by
  rintro id n sz n' ob e ho hd ⟨ad,cap,hv,hc1,hc2⟩ hr ⟨rfl,hs,hw⟩;subst hs;have hu:=((hr.2.2 _ _ _ _ ho hd).2 rfl).trans hv;rw[hu];exact agc (i:=0) (k:=n') (ad':=ad) h h2 hsz hl hhi hm ho hd hv bpw hc1 hc2 (fun _=>by cases ad<;>simp[a49]) hw
 have ofWin:∀(id n sz n' i k:Nat) (ob:aa) (e:TypeId),s.o id=some ob->ob.dim=some (sz,e,n')->b9 c s.o (.win id n i k) (a.eval x)->(wq ei.size l hh m sz id n' n i k).pre ->
  ∃v,(Instr.sliceAt t (a.eval x) (lo.map a.eval) (hi.map a.eval) (mx.map a.eval)).run P w=.ok v w/\ak c s.o (wq ei.size l hh m sz id n' n i k).val v:=by
  rintro id n sz n' i k ob e ho hd hr ⟨rfl,hs,hw⟩;subst hs;obtain⟨ad,ad',cap,q1,q2,q3,q4,q5,q6⟩:=(hr.2.2 _ _ _ _ ho hd).2 rfl;rw[q2];exact agc h h2 hsz hl hhi hm ho hd q1 q3 q4 q5 q6 hw
 unfold ym at hq;split at hq<;>try(cases hq;done)
 · split at hq<;>try(cases hq;done)
   · rename_i ho
     simp only[bly]at hq;subst hq;exact ofRef _ _ _ _ _ _ ho rfl (a7w (h.objs _ _ ho)) hev hp
   rename_i ho;simp only[bly]at hq;subst hq;exact ofRef _ _ _ _ _ _ ho rfl (a97 (h.objs _ _ ho)) hev hp
 split at hq<;>try(cases hq;done)
 · rename_i ho
   simp only[bly]at hq;subst hq;exact ofWin _ _ _ _ _ _ _ _ ho rfl hev hp
 rename_i ho;simp only[bly]at hq;subst hq;exact ofWin _ _ _ _ _ _ _ _ ho rfl hev hp
end
end
end
end Go.Hx
