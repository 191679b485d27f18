/- A part of the proof: Hx5 Hx6 Hx7 Hx8. -/
import Derived.Laws.BytesArg
import Derived.Laws.Runes
import Derived.Maps.AppendAt
import Derived.WideMake
import Derived.Test.YtcepfnkhagkdeaaGreatDoorUx01
set_option linter.all false
namespace Go.Hx
section
open Go.RowKit
def NA (k:TK) (x y:HV):Option Bool :=
 match k,x,y with
 | .int _, .p (.raw (.int k a)), .p (.raw (.int k' b))=>match decide (k=k') with|true=>some (decide (a=b))|false=>none
 | .string, .p (.raw (.string a)), .p (.raw (.string b))=>some (decide (a=b))
 | .bool, .p (.raw (.bool a)), .p (.raw (.bool b))=>some (a==b)
 |_,_,_=>none
def Jt(E:Xc)(xs ys:List HV):List (Nat×TypeId×Bool)->Option Bool
 | []=>some true
 | (off,ft,bl)::r =>
  match bl,E ft,xs[off]?,ys[off]? with
  | false,some fi,some x,some y =>
   match NA fi.k x y with
   |some b=>match r with|[]=>some b|_=>(Jt E xs ys r).map λb'=>b&&b'
   |none=>none
  |_,_,_,_=>none
def SG (E:Xc) (t:TypeId) (xs ys:List HV):Option Bool :=
 match E t with
 | some i =>
  match i.k,i.stood,i.eqg with
  | .struct fs,false,false=>Jt E xs ys fs
  |_,_,_=>none
 |none=>none
def Sw (E:Xc) (ex:Bool) (e:Ev) (op:BinOp) (t:TypeId) (x y:Operand):Option Ge :=
 match e x,e y with
 | some (.v (.one (.p (.raw u)))),some (.v (.one (.p (.raw v)))) =>
  match lG E ex op t u v with
  |some (pre,r)=>some ⟨pre,bu (.raw r)⟩
  |none=>none
 | some (.v (.agg l)),some (.v (.agg l')) =>
  match op,SG E t l l' with
  | .eql,some b=>some ⟨True,bu (.raw (.bool b))⟩
  | .neq,some b=>some ⟨True,bu (.raw (.bool (!b)))⟩
  |_,_=>none
 |_,_=>none
def Qv (ex:Bool) (e:Ev) (op:UnOp) (x:Operand):Option Ge :=
 match op,e x with
 | .neg,some (.v (.one (.p (.raw (.int k n)))))=>some ⟨(l3 ex k (0-n)).1,bu (.raw (l3 ex k (0-n)).2)⟩
 | .xor,some (.v (.one (.p (.raw (.int k n)))))=>some ⟨True,bu (.raw (.int k (bq .xor k (if k.signed then -1 else k.max) n)))⟩
 | .not,some (.v (.one (.p (.raw (.bool b)))))=>some ⟨True,bu (.raw (.bool (!b)))⟩
 |_,_=>none
def YC:PV->Int
 | .raw (.int _ k)=>k
 |_=>0
def KI(n:Nat)(f:Nat->Nat->PV):ByteArray:=strOfNums ((List.range n).map λi=>YC (f i 0))
def cN (E:Xc):TK->Bool
 | .slice el=>match E el with|some ei=>(match ei.k with | .int .u8=>true|_=>false)|none=>false
 |_=>false
def Qx (E:Xc) (ex:Bool) (e:Ev) (src dst:TypeId) (x:Operand):Option Ge :=
 match E src,E dst,e x with
 | some _,some di,some (.v (.one (.p (.raw (.int _ n))))) =>
  match di.k with
  | .int k=>some ⟨(l3 ex k n).1,bu (.raw (l3 ex k n).2)⟩
  | .string=>some ⟨True,bu (.raw (.string (Utf8.encode n)))⟩
  |_=>none
 | some si,some di,some (.v (.one (.p (.sl n sz _ f)))) =>
  match di.k,cN E si.k with
  | .string,true=>some ⟨sz=1/\∀i,i<n->∃k,f i 0=.raw (.int .u8 k),bu (.raw (.string (KI n f)))⟩
  |_,_=>none
 | some _,some di,some (.v (.one (.p (.raw (.string b))))) =>
  match di.k with
  | .string=>some ⟨True,bu (.raw (.string b))⟩
  |_=>none
 |_,_,_=>none
def jk (e:Ev):Option Operand->Option (Option Int)
 |none=>some none
 |some y=>match e y with|some (.v (.one (.p (.raw (.int _ n)))))=>some (some n)|_=>none
def bh (n:Nat):Option Int->Nat
 |none=>n
 |some h=>h.toNat
def ep (n:Nat):Option Int->Nat
 |none=>n
 |some l=>n-l.toNat
def tf (f:Nat->Nat->PV):Option Int->Nat->Nat->PV
 |none=>f
 |some l=>λi j=>f (l.toNat+i) j
def yH (clip:Bool):Option Int->Option Int->Bool
 |some _,_=>true
 |none,none=>clip
 |none,some _=>false
def YO (n:Nat) (lo hi mx:Option Int):Prop :=
 (match lo with|none=>True|some l=>0<=l/\l<=(bh n hi:Nat))/\(match hi with|none=>True|some h=>0<=h/\h<=n)/\(match mx with|none=>True|some m=>hi=some m)
def mh(E:Xc)(e:Ev)(t:TypeId)(x:Operand)(lo hi mx:Option Operand):Option Ge :=
 match E t,e x,jk e lo,jk e hi,jk e mx with
 | some ti,some (.v (.one (.p (.raw (.string b))))),some l,some h,some none =>
  match ti.k with
  | .string=>some ⟨YO b.size l h none,bu (.raw (.string (b.extract (bh 0 l) (bh b.size h))))⟩
  |_=>none
 | some ti,some (.v (.one (.p (.sl n sz c f)))),some l,some h,some m =>
  match ti.k with
  | .slice el =>
   match E el with
   |some ei=>some ⟨ei.size=sz/\YO n l h m,bu (.sl (ep (bh n h) l) sz (yH c m h) (tf f l))⟩
   |none=>none
  |_=>none
 |_,_,_,_,_=>none
def sM (n C:Nat) (l h m:Option Int):Prop :=
 (match l with|none=>True|some l=>0<=l/\l<=(bh n h:Nat))/\(match h with|none=>True|some h=>0<=h/\h<=C)/\(match m with|none=>True|some mm=>(match h with|none=>False|some hv=>hv<=mm)/\mm<=C)
def ym (size:Nat) (l h m:Option Int) (sz id n' n i k:Nat):Ge :=
 ⟨n'=n/\size=sz/\sM k (n-i) l h m,match m with|none=>.v (.one (.win id n (i+bh 0 l) (ep (bh k h) l)))|some _=>bu .any⟩
def Yt (o:av) (size:Nat) (l h m:Option Int):HV->Option Ge
 | .ref id n =>
  match o id with
  |some (.arr _ sz _ n' _)=>some (ym size l h m sz id n' n 0 n)
  |some (.arrh sz _ n' _ _)=>some (ym size l h m sz id n' n 0 n)
  |_=>none
 | .win id n i k =>
  match o id with
  |some (.arr _ sz _ n' _)=>some (ym size l h m sz id n' n i k)
  |some (.arrh sz _ n' _ _)=>some (ym size l h m sz id n' n i k)
  |_=>none
 |_=>none
def Gw(E:Xc)(o:av)(e:Ev)(t:TypeId)(x:Operand)(lo hi mx:Option Operand):Option Ge :=
 match E t with
 | some ti =>
  match ti.k with
  | .slice el =>
   match E el with
   | some ei =>
    match jk e lo,jk e hi,jk e mx with
    | some l,some hh,some m =>
     match e x with
     |some (.v (.one h))=>Yt o ei.size l hh m h
     |_=>none
    |_,_,_=>none
   |none=>none
  |_=>none
 |none=>none
def c5(b:ByteArray)(i:Nat):Int:=((b.data.toList.getD i 0).toNat:Int)
def Jy (E:Xc) (e:Ev) (t:TypeId) (x ix:Operand):Option Ge :=
 match E t,e x,e ix with
 | some ti,some (.v (.one (.p (.raw (.string b))))),some (.v (.one (.p (.raw (.int _ i))))) =>
  match ti.k with
  | .string=>some ⟨0<=i/\i<b.size,bu (.raw (.int .u8 (c5 b i.toNat)))⟩
  |_=>none
 |_,_,_=>none
def ug (e:Ev) (x:Operand) (i:Nat):Option Ge :=
 match e x with
 |some (.tup l)=>match l[i]? with|some c=>some ⟨True, .v c⟩|none=>none
 |_=>none
def ur(E:Xc)(e:Ev)(b:Builtin)(args:List Operand)(tys:List TypeId):Option Ge :=
 match b,args,tys with
 | .len,[x],t::_ =>
  match E t with
  | some ti =>
   match ti.k,e x with
   | .string,some (.v (.one (.p (.raw (.string b)))))=>some ⟨True,bu (.raw (.int .i64 b.size))⟩
   | .slice _,some (.v (.one (.p (.sl n _ _ _))))=>some ⟨True,bu (.raw (.int .i64 n))⟩
   |_,_=>none
  |none=>none
 | .min,[x,y],_ =>
  match e x,e y with
  |some (.v (.one (.p (.raw (.int k a))))),some (.v (.one (.p (.raw (.int _ b)))))=>some ⟨True,bu (.raw (.int k (if b<a then b else a)))⟩
  |_,_=>none
 | .max,[x,y],_ =>
  match e x,e y with
  |some (.v (.one (.p (.raw (.int k a))))),some (.v (.one (.p (.raw (.int _ b)))))=>some ⟨True,bu (.raw (.int k (if a<b then b else a)))⟩
  |_,_=>none
 |_,_,_=>none
def Qq (o:av):HV->Option Ge
 | .ref id n =>
  match o id with
  |some (.arr _ _ _ n' _)=>some ⟨n'=n,bu (.raw (.int .i64 n))⟩
  |some (.arrh _ _ n' _ _)=>some ⟨n'=n,bu (.raw (.int .i64 n))⟩
  |some (.nest _ _ _ n' _ _ none)=>some ⟨n'=n,bu (.raw (.int .i64 n))⟩
  |_=>none
 | .row id i k =>
  match o id with
  |some (.nest _ _ _ n m _ _)=>some ⟨i<n/\m i=k,bu (.raw (.int .i64 k))⟩
  |_=>none
 | .win id n _ m =>
  match o id with
  |some (.arr _ _ _ n' _)=>some ⟨n'=n,bu (.raw (.int .i64 m))⟩
  |some (.arrh _ _ n' _ _)=>some ⟨n'=n,bu (.raw (.int .i64 m))⟩
  |_=>none
 |_=>none
def wk(E:Xc)(o:av)(e:Ev)(b:Builtin)(args:List Operand)(tys:List TypeId):Option Ge :=
 match b,args,tys with
 | .len,[x],t::_ =>
  match E t with
  | some ti =>
   match ti.k with
   | .slice _ =>
    match e x with
    |some (.v (.one h))=>Qq o h
    |_=>none
   |_=>none
  |none=>none
 |_,_,_=>none
def btg:HV->Option PV
 | .p x=>some x
 |_=>none
def Dr (e:Ev):List Operand->Option (List PV)
 | []=>some []
 | x::r =>
  match e x,Dr e r with
  |some (.v (.one (.p y))),some l=>some (y::l)
  |_,_=>none
def Mr (e:Ev):List Operand->Option (List HV)
 | []=>some []
 | x::r =>
  match e x,Mr e r with
  |some (.v (.one y)),some l=>some (y::l)
  |_,_=>none
def l7:List HV->Option (List PV)
 | []=>some []
 | .p x::r=>match l7 r with|some l=>some (x::l)|none=>none
 |_::_=>none
def Lx (e:Ev) (fn:Fn) (first caps:List Operand):Option Ge :=
 match fn,first with
 | .func f,[] =>
  match Dr e caps with
  |some l=>some ⟨True,bu (.fn f l.length λi=>l.getD i .any)⟩
  |none=>match Mr e caps with|some l=>some ⟨True, .v (.one (.clo f l.length λi=>l.getD i (.p .any)))⟩|none=>none
 | .func f,[x] =>
  match caps,e x with
  | [],some (.v (.agg hs))=>match l7 hs with|some l=>some ⟨True,bu (.bnd f l.length λi=>l.getD i .any)⟩|none=>none
  |_,_=>none
 |_,_=>none
def ta (o:av) (e:Ev) (x:Operand):Option Ge :=
 match e x with
 |some (.v (.one (.p (.fn g k c))))=>some ⟨True,bu (.fn g k c)⟩
 |some (.v (.one (.clo g k c)))=>some ⟨True, .v (.one (.clo g k c))⟩
 |some (.v (.one h))=>match Sk o h with|some (p,_,_)=>some ⟨p, .v (.one h)⟩|none=>none
 |_=>none
def tO (b:Bool):Option HR->Option HR->Option Ge
 |some (.v (.one (.p (.raw (.bool x))))),some (.v (.one (.p (.raw (.bool y)))))=>some ⟨True,bu (.raw (.bool (bif b then x else y)))⟩
 |some x,none=>some ⟨b=true,x⟩
 |some x,some (.tup [])=>some ⟨b=true,x⟩
 |none,some y=>some ⟨b=false,y⟩
 |some (.tup []),some y=>some ⟨b=false,y⟩
 |some x,some y=>match b with|true=>some ⟨True,x⟩|false=>some ⟨True,y⟩
 |none,none=>none
def Px (e:Ev) (c x y:Operand):Option Ge :=
 match e c with
 |some (.v (.one (.p (.raw (.bool b)))))=>tO b (e x) (e y)
 |_=>none
def nH (op:BinOp) (n:Nat):Option Ge :=
 match op with
 | .eql=>some ⟨0<n,bu (.raw (.bool false))⟩
 | .neq=>some ⟨0<n,bu (.raw (.bool true))⟩
 |_=>none
def oB (op:BinOp) (ad:Option Addr):Option Ge :=
 match op with
 | .eql=>some ⟨True,bu (.raw (.bool ad.isNone))⟩
 | .neq=>some ⟨True,bu (.raw (.bool (!ad.isNone)))⟩
 |_=>none
def ww(E:Xc)(e:Ev)(op:BinOp)(t:TypeId)(x y:Operand):Option Ge :=
 match y with
 | .const (.slice none 0 0) =>
  match E t with
  | some i =>
   match i.k with
   | .slice _ =>
    match e x with
    |some (.v (.one (.p (.sl n _ _ _))))=>nH op n
    |some (.v (.one (.p (.raw (.slice ad _ _)))))=>oB op ad
    |_=>none
   |_=>none
  |none=>none
 |_=>none
def PD (op:BinOp) (b:Bool):Option Ge :=
 match op with
 | .eql=>some ⟨True,bu (.raw (.bool b))⟩
 | .neq=>some ⟨True,bu (.raw (.bool (!b)))⟩
 |_=>none
def rB (o:av) (op:BinOp):HV->Option Ge
 | .ptr id _=>match o id with|some (.box _)=>PD op false|_=>none
 | .p (.raw (.pointer p))=>PD op p.isNone
 |_=>none
def lp(E:Xc)(o:av)(e:Ev)(op:BinOp)(t:TypeId)(x y:Operand):Option Ge :=
 match y with
 | .const (.pointer none) =>
  match E t with
  | some i =>
   match i.k with
   | .pointer _ =>
    match e x with
    |some (.v (.one h))=>rB o op h
    |_=>none
   |_=>none
  |none=>none
 |_=>none
def KB (E:Xc):List (Nat×TypeId×Bool)->Option (List (Nat×Nat))
 | []=>some []
 | (off,ft,_)::r =>
  match E ft,KB E r with
  |some fi,some l=>some ((off,fi.size)::l)
  |_,_=>none
def HC.cells:HC->List HV
 | .one h=>[h]
 | .agg l=>l
def bj(l:List HV)(off:Nat)(new:List HV):List HV:=l.take off++new++l.drop (off+new.length)
def iw(e:Ev)(places:List (Nat×Nat))(cells:List HV):List (Nat×Operand)->Option (List HV)
 | []=>some cells
 | (i,x)::r =>
  match places[i]?,e x with
  | some (off,size),some (.v c) =>
   match decide (c.cells.length=size),decide (off+size<=cells.length) with
   |true,true=>iw e places (bj cells off c.cells) r
   |_,_=>none
  |_,_=>none
def My(E:Xc)(e:Ev)(t:TypeId)(parts:List (Nat×Operand)):Option Ge :=
 match E t with
 | some i =>
  match i.k,i.zero with
  | .struct fs,some z =>
   match KB E fs,re z with
   | some places,true =>
    match iw e places (z.map λc=>.p (io c)) parts with
    |some l=>some ⟨True, .v (.agg l)⟩
    |none=>none
   |_,_=>none
  | .array n el,some z =>
   match E el,re z with
   | some ie,true =>
    match iw e ((List.range n).map λk=>(k*ie.size,ie.size)) (z.map λc=>.p (io c)) parts with
    |some l=>some ⟨True, .v (.agg l)⟩
    |none=>none
   |_,_=>none
  |_,_=>none
 |none=>none
def Vs:TK->Option KK
 | .int q=>some (.int q)
 | .string=>some .str
 |_=>none
def b3i{k:TK}{kk:KK}(h:Vs k=some kk)(b:Nat):kk.has b:=by cases k<;>simp[Vs]at h<;>subst h<;>trivial
def FC:Value->Option MK
 | .int q n=>some (.i q n)
 | .string b=>some (.s b)
 |_=>none
def fU {v:Value} {m:MK} (h:FC v=some m):m.val=v:=by
 cases v<;>simp[FC]at h<;>subst h<;>rfl
def Ot(f:MK->Option PV)(m:MK)(z:Value):PV:=match f m with|some y=>y|none=>io z
def FA(f:MK->Option PV)(m:MK):Bool:=match f m with|some _=>true|none=>false
def By(has:MK->Bool)(f:MK->PV)(m:MK)(z:Value):PV:=match has m with|true=>f m|false=>io z
def CA(o:av)(kk:KK)(m:MK)(z:Value)(cm:Bool):HV->Option Ge
 | .p (.mp kk' _ has f) =>
  match cm with
  |true=>some ⟨kk'=kk/\MK.ok kk m, .tup [.one (.p (By has f m z)), .one (.p (.raw (.bool (has m))))]⟩
  |false=>some ⟨kk'=kk/\MK.ok kk m, .v (.one (.p (By has f m z)))⟩
 | .ref id _ =>
  match o id with
  | some (.mp kk' _ f) =>
   match cm with
   |true=>some ⟨kk'=kk/\MK.ok kk m, .tup [.one (.p (Ot f m z)), .one (.p (.raw (.bool (FA f m))))]⟩
   |false=>some ⟨kk'=kk/\MK.ok kk m, .v (.one (.p (Ot f m z)))⟩
  |_=>none
 |_=>none
def lD (E:Xc) (kt et:TypeId):Option (KK×Value) :=
 match E kt,E et with
 | some ki,some ei =>
  match Vs ki.k,ei.zero,ei.zone with
  |some kk,some [z],true=>some (kk,z)
  |_,_,_=>none
 |_,_=>none
def li(E:Xc)(o:av)(e:Ev)(t:TypeId)(x ix:Operand)(cm:Bool):Option Ge :=
 match E t with
 | some i =>
  match i.k with
  | .map kt et =>
   match lD E kt et with
   | some (kk,z) =>
    match e ix with
    | some (.v (.one (.p (.raw kv)))) =>
     match FC kv with
     | some m =>
      match e x with
      |some (.v (.one h))=>CA o kk m z cm h
      |_=>none
     |none=>none
    |_=>none
   |none=>none
  |_=>none
 |none=>none
def hq (E:Xc) (ex:Bool) (o:av) (e:Ev):Op->Option Ge
 | .move x=>(e x).map λr=>⟨True,r⟩
 | .assign x=>(e x).map λr=>⟨True,r⟩
 | .pick c x y=>Px e c x y
 | .nilCheck x=>ta o e x
 | .load t x=>nx E o e t x
 | .fieldAddr t x k=>gl E o e t x k
 | .field t x k=>Iy E e t x k
 | .indexAddr t x i=>i7 E o e t x i
 | .index t x i=>Jy E e t x i
 | .lookup t x i cm=>li E o e t x i cm
 | .binOp op t x y _=>match ww E e op t x y with|some r=>some r|none=>match lp E o e op t x y with|some r=>some r|none=>Sw E ex e op t x y
 | .unOp op _ x=>Qv ex e op x
 | .convert s d x=>Qx E ex e s d x
 | .extract x i=>ug e x i
 | .slice t x lo hi mx=>match mh E e t x lo hi mx with|some r=>some r|none=>Gw E o e t x lo hi mx
 | .makeFunc fn first caps=>Lx e fn first.toList caps.toList
 | .build t parts=>My E e t parts.toList
 | .call c =>
  match c.callee with
  | .builtin b=>match ur E e b c.args.toList c.argTypes.toList with|some r=>some r|none=>wk E o e b c.args.toList c.argTypes.toList
  |_=>none
 |_=>none
section
variable {P:Program}{E:Xc}{w0:World}{nt:Nat}{c:Pc}{s:S}{a:Act}{w:World}
def ef{c:Pc}{o:av}{v:Value}(h:v.oneCell'=true):ap c o (bu (.raw v)) v:=⟨rfl,h⟩
section
variable {t:TypeId}
def apg(hE:dl P E){fi:TI}(hi:E t=some fi){x y:HV}{b:Bool}(hl:NA fi.k x y=some b){o:av}{u v:Value}(hu:bc c o x u)(hv:bc c o y v)(d:Nat)(w:World):
 (Op.equalIn (d+1) t u v).run P w=.ok b w:=by
 obtain⟨ii,dd,h1,h2,h3,_⟩:=az (hE t fi hi);unfold NA at hl;split at hl<;>try(cases hl;done)
 .rename_i hk
  split at hl<;>try(cases hl;done)
  rename_i hkk;have hkk:=Ga hkk;subst hkk;simp only[Bb]at hl;subst hl;obtain⟨rfl,_⟩:=hu;obtain⟨rfl,_⟩:=hv;have:∃k',dd=.int k':=by cases dd<;>simp_all [j1]
  obtain⟨k',rfl⟩:=this;rw[run_equalIn_int w d t _ k' _ _ h2];congr 1
 .rename_i hk
  simp only[Bb]at hl;subst hl;obtain⟨rfl,_⟩:=hu;obtain⟨rfl,_⟩:=hv;have:dd=.string:=by cases dd<;>simp_all [j1]
  subst this;rw[run_equalIn_string w d t _ _ h2,pX]
 rename_i hk;simp only[Bb]at hl;subst hl;obtain⟨rfl,_⟩:=hu;obtain⟨rfl,_⟩:=hv;have:dd=.bool:=by cases dd<;>simp_all [j1]
 subst this;exact run_equalIn_bool w d t _ _ h2
def as5 {k:TK} {x y:HV} {b:Bool} (h:NA k x y=some b):k.isAgg=false:=by
 cases k<;>simp_all [NA,TK.isAgg]
theorem dW (hE:dl P E) {o:av} {xs ys:List HV} {us vs:List Value} (hx:b7 c o xs us) (hy:b7 c o ys vs) (d:Nat) (w:World) :
 ∀ (fs : List Field) (b : Bool), Jt E xs ys (fs.map λf => (f.offset, f.type, f.name == "_")) = some b -> (Op.eqFields (d + 1) us.toArray vs.toArray fs).run P w = .ok b w
 | [],b,h=>by simp[Jt]at h;subst h;simp[Op.eqFields]
 | f :: fs,b,h=>by
  simp only[Wh,Jt]at h;split at h<;>try(cases h;done)
  rename_i fi x y hbl hfi hxo hyo;have hname : f.name ≠ "_" := by simpa using hbl
  split at h<;>try(cases h;done)
  rename_i bb hleaf;obtain⟨u,hu,hru⟩:=hx.get _ _ hxo;obtain⟨v,hv,hrv⟩:=hy.get _ _ hyo;have hag:=as5 hleaf;obtain⟨mu,pu⟩:=HL (P:=P) (hE _ _ hfi) us f.offset w;obtain⟨mv,pv⟩:=HL (P:=P) (hE _ _ hfi) vs f.offset w;rw[hag,hu]at pu;rw[hag,hv]at pv;have he:=apg hE hfi hleaf hru hrv d w
  have key : ∀ bb', (match fs.map (λf => (f.offset, f.type, f.name == "_")) with | [] => some bb | _ => (Jt E xs ys (fs.map λf => (f.offset, f.type, f.name == "_"))).map λb' => bb && b') = some bb' ->
   (Op.eqFields (d+1) us.toArray vs.toArray (f::fs)).run P w=.ok bb' w:=by
   intro bb' hb;simp only[Op.eqFields,ne_eq,hname,not_false_eq_true,Ma,Nf,pu,pv,Nj,Na,Rf,he,Sem.run_ite,Mh];split at hb
   .rename_i hnil
    simp only[List.map_eq_nil_iff]at hnil;subst hnil;simp only[Bb]at hb;subst hb;cases bb<;>simp[Op.eqFields]
   cases hr : Jt E xs ys (fs.map λf => (f.offset, f.type, f.name == "_")) with
   |none=>rw[hr]at hb;cases hb
   | some b' =>
    rw[hr]at hb;simp only[Vf,Bb]at hb;subst hb;have ih:=dW hE hx hy d w fs b' hr
    grind
  exact key b h
variable {ex:Bool}{out:Ge}{x:Operand}
def arv(hE:dl P E)(h:ah w0 nt c s a w){op:BinOp}{y:Operand}(hq:Sw E ex (ev s) op t x y=some out)(hp:out.pre):
 ∃v,(do eqGuard op t x y (a.eval x) (a.eval y);binOp op t (a.eval x) (a.eval y):Sem Value).run P w=.ok v w/\ap c s.o out.val v:=by
 unfold Sw at hq;split at hq<;>try(cases hq;done)
 .rename_i u v hx hy
  split at hq<;>try(cases hq;done)
  rename_i pre r hb;simp only[Bb]at hq;subst hq;obtain⟨e1,_⟩:=ae h hx;obtain⟨e2,_⟩:=ae h hy;rw[e1,e2];obtain⟨h1,h2⟩:=awi (x:=x) (y:=y) hE hb hp w;exact⟨r,h1,ef h2⟩
 rename_i l l' hx hy;obtain⟨us,e1,r1⟩:=ae h hx;obtain⟨vs,e2,r2⟩:=ae h hy
 have core:∀b,SG E t l l'=some b->(eqGuard op t x y (.agg us.toArray) (.agg vs.toArray)).run P w=.ok () w/\(Op.equalIn 10000 t (.agg us.toArray) (.agg vs.toArray)).run P w=.ok b w:=by
  intro b hb;unfold SG at hb;split at hb<;>try(cases hb;done)
  rename_i i hi;split at hb<;>try(cases hb;done)
  rename_i fs hk hst heg;obtain⟨ii,d,h1,h2,h3,h4,h5,h6,h7,h8⟩:=az (hE t i hi);obtain⟨fa,rfl,hfa⟩:=xo (h3.symm.trans hk);rw[hst]at h7;rw[heg]at h8;refine⟨run_eqGuard_agg w op t x y _ _ h8.symm, ?_⟩;have hfo:P.fieldsOf t=fa:=by simp[Program.fieldsOf,h2]
  rw[run_equalIn_struct w 9999 t _ _ (by rw[hfo];exact h2) h7.symm,hfo];rw[hfa]at hb;exact dW hE r1 r2 9998 w fa.toList b hb
 rw[e1,e2];split at hq<;>try(cases hq;done)
 .rename_i b hb
  simp only[Bb]at hq;subst hq;obtain⟨g1,g2⟩:=core b hb;refine⟨.bool b, ?_,ef rfl⟩;rw[Nf,g1,Rf,run_eql_struct,g2,Rf]
 rename_i b hb;simp only[Bb]at hq;subst hq;obtain⟨g1,g2⟩:=core b hb;refine⟨.bool (!b), ?_,ef rfl⟩;rw[Nf,g1,Rf,run_neq_struct,g2,Rf]
def xn {k:IntKind} {n:Int} (hp:(l3 ex k n).1):(l3 ex k n).2=.int k (k.wrap n):=by
 cases ex
 .rfl
 simp only[l3]at hp ⊢;rw[wo hp]
def axb(h:ah w0 nt c s a w){op:UnOp}(hq:Qv ex (ev s) op x=some out)(hp:out.pre):
 ∃v,(Op.unary op (a.eval x)).run P w=.ok v w/\ap c s.o out.val v:=by
 unfold Qv at hq;split at hq<;>try(cases hq;done)
 .rename_i k n hx
  simp only[Bb]at hq;subst hq;obtain⟨e1,_⟩:=ae h hx;rw[e1];refine⟨_, ?_,ef (by rw[xn hp];rfl)⟩;rw[xn hp];simp[Op.unary,Op.intArith]
 .rename_i k n hx
  simp only[Bb]at hq;subst hq;obtain⟨e1,_⟩:=ae h hx;rw[e1];exact⟨_,by simp[Op.unary,Op.intBits,bq],ef rfl⟩
 rename_i b hx;simp only[Bb]at hq;subst hq;obtain⟨e1,_⟩:=ae h hx;rw[e1];exact⟨_,by simp[Op.unary],ef rfl⟩
def amf(hE:dl P E)(h:ah w0 nt c s a w){src dst:TypeId}(hq:Qx E ex (ev s) src dst x=some out)(hp:out.pre):
 ∃v,(convert src dst (a.eval x)).run P w=.ok v w/\ap c s.o out.val v:=by
 unfold Qx at hq;split at hq<;>try(cases hq;done)
 .rename_i si di k n hs hd hx
  obtain⟨e1,_⟩:=ae h hx;rw[e1];obtain⟨ii,d,h1,h2,h3,_⟩:=az (hE dst di hd);obtain⟨ii',d',h1',h2',h3',_⟩:=az (hE src si hs);split at hq<;>try(cases hq;done)
  .rename_i k' hk
   simp only[Bb]at hq;subst hq;have:d=.int k':=by cases d<;>simp_all [j1]
   subst this;refine⟨_, ?_,ef (by rw[xn hp];rfl)⟩;rw[xn hp];simp[convert,run_underlying h2,run_underlying h2',Conv.intToInt]
  rename_i hk;simp only[Bb]at hq;subst hq;have:d=.string:=by cases d<;>simp_all [j1]
  subst this;exact⟨_,run_convert_int_string w src dst k n (by rw[h2'];rfl) h2,ef rfl⟩
 .rename_i si di n sz cl f hs hd hx
  split at hq<;>try(cases hq;done)
  rename_i hk hu;simp only[Bb]at hq;subst hq;obtain⟨rfl,hp⟩:=hp;obtain⟨ii,d,h1,h2,h3,_⟩:=az (hE dst di hd);obtain⟨ii',d',h1',h2',h3',_⟩:=az (hE src si hs);have:d=.string:=by cases d<;>simp_all [j1]
  subst this;unfold cN at hu;split at hu<;>try(cases hu;done)
  rename_i el hel;split at hu<;>try(cases hu;done)
  rename_i ei hei;split at hu<;>try(cases hu;done)
  rename_i hek;obtain⟨ii2,d2,h12,h22,h32,_⟩:=az (hE el ei hei);have:d'=.slice el:=by cases d'<;>simp_all [j1]
  subst this;have:d2=.int .u8:=by cases d2<;>simp_all [j1]
  subst this;obtain⟨ad,cap,e1,_,_,_,e5⟩:=ae h hx;rw[e1];by_cases hn:n=0
  .subst hn
   cases ad with
   |none=>exact⟨_,run_convert_bytes_nil w src el h2' h22 0 cap dst h2,ef rfl⟩
   | some ad =>
    refine⟨_, ?_,ef rfl⟩;rw[run_convert_bytes_string w src dst el _ 0 cap h2' h22 h2];have hl:(loadCells ad 0).run P w=.ok #[] w:=run_loadCells_list (P:=P) w ad [] (λj v hj=>by simp at hj);have:=run_bytesToString (P:=P) w ad 0 cap [] (by simpa using hl);rw[this];rfl
  obtain⟨b,off,rfl,hc⟩:=e5 Za;refine⟨_,run_convert_bytes_arg w src el h2' h22 b off n cap ((List.range n).map λi=>YC (f i 0)) Ec (λi hi=>?_) dst h2,ef rfl⟩;obtain⟨x,hx,hr⟩:=hc i 0 hi Za;obtain⟨k,hk⟩:=hp i hi;rw[hk]at hr;have hx':=xi h hx;rw[Zj,Fi]at hx';rw[hx',hr.1];simp[List.getD,Pe,Hi hi,hk,YC]
 rename_i si di b hs hd hx;split at hq<;>try(cases hq;done)
 rename_i hk;simp only[Bb]at hq;subst hq;obtain⟨e1,_⟩:=ae h hx;rw[e1];obtain⟨ii,d,h1,h2,h3,_⟩:=az (hE dst di hd);obtain⟨ii',d',h1',h2',h3',_⟩:=az (hE src si hs);have:d=.string:=by cases d<;>simp_all [j1]
 subst this;exact⟨_,by simp[convert,run_underlying h2,run_underlying h2'],ef rfl⟩
def ja (h:ah w0 nt c s a w) {x:Option Operand} {r:Option Int} (hx:jk (ev s) x=some r) :
 (r=none/\x.map a.eval=none)\/∃k n,r=some n/\x.map a.eval=some (.int k n):=by
 cases x with
 |none=>simp[jk]at hx;exact .inl ⟨hx.symm,rfl⟩
 | some y =>
  simp only[jk]at hx;split at hx<;>try(cases hx;done)
  rename_i k n hy;simp only[Bb]at hx;obtain⟨e1,_⟩:=ae h hy;exact .inr ⟨k,n,hx.symm,by simp[e1]⟩
def c4 (w:World) (k:IntKind) (n:Int) (y:Nat) (cd:BoundsCode) (h:0<=n/\n<=y):(Instr.sliceBound (.int k n) y cd).run P w=.ok n.toNat w:=by
 simp[Instr.sliceBound,asIntOf,h]
variable {hi lo mx:Option Operand}
def XW(hE:dl P E)(h:ah w0 nt c s a w)(hq:mh E (ev s) t x lo hi mx=some out)(hp:out.pre):
 ∃v,(Instr.sliceAt t (a.eval x) (lo.map a.eval) (hi.map a.eval) (mx.map a.eval)).run P w=.ok v w/\ap c s.o out.val v:=by
 unfold mh at hq;split at hq<;>try(cases hq;done)
 .rename_i ti b l hh hti hx hl hhi hm
  split at hq<;>try(cases hq;done)
  rename_i hk;simp only[Bb]at hq;subst hq;obtain⟨p1,p2,_⟩:=hp;obtain⟨e1,_⟩:=ae h hx;obtain⟨ii,d,h1,h2,h3,_⟩:=az (hE t ti hti);have:d=.string:=by cases d<;>simp_all [j1]
  subst this
  have hm':mx.map a.eval=none:=by
   rcases ja h hm with⟨_,e⟩|⟨k,n,e,_⟩
   .exact e
   cases e
  rw[e1,hm'];refine⟨.string (b.extract (bh 0 l) (bh b.size hh)), ?_,ef rfl⟩
  rcases ja h hl with⟨rfl,el⟩|⟨kl,nl,rfl,el⟩<;>rcases ja h hhi with⟨rfl,eh⟩|⟨kh,nh,rfl,eh⟩<;>rw[el,eh] <;>
   simp only[bh]at p1 p2 ⊢
  .simp[Instr.sliceAt,run_underlying h2,Instr.slice,Instr.sliceBounds]
  .simp[Instr.sliceAt,run_underlying h2,Instr.slice,Instr.sliceBounds,c4 w kh nh b.size _ p2]
  .simp[Instr.sliceAt,run_underlying h2,Instr.slice,Instr.sliceBounds,c4 w kl nl b.size _ p1]
  have p1':0<=nl/\nl<=(nh.toNat:Nat):=p1;simp[Instr.sliceAt,run_underlying h2,Instr.slice,Instr.sliceBounds,c4 w kh nh b.size _ p2,c4 w kl nl nh.toNat _ p1']
 rename_i ti n sz cl f l hh m hti hx hl hhi hm;split at hq<;>try(cases hq;done)
 rename_i el hk;split at hq<;>try(cases hq;done)
 rename_i ei hei;simp only[Bb]at hq;subst hq;obtain⟨hs,p1,p2,p3⟩:=hp;obtain⟨ad,cap,e1,hcap,hmax,hclip,hc⟩:=ae h hx;obtain⟨ii,d,h1,h2,h3,_⟩:=az (hE t ti hti);obtain rfl:=ez (h3.symm.trans hk);have hsz:=f5 (hE el ei hei) w;rw[e1]
 have fin:∀(L H M:Nat),L<=H->H<=n->H<=M->M<=cap->ep (bh n hh) l=H-L->(∀i j,tf f l i j=f (L+i) j)->(yH cl m hh=true->M=H) ->
  ap c s.o (bu (.sl (ep (bh n hh) l) sz (yH cl m hh) (tf f l))) (.slice (if M=L then ad else ad.map (·.add (L*ei.size))) (H-L) (M-L)):=by
  intro L H M h1 h2 h3 h4 hn hf hcl;refine⟨_,M-L,by rw[hn],by omega,by omega,λh=>by have:=hcl h;omega,λhpos=>?_⟩;rw[hn]at hpos;rw[Ca Za];obtain⟨b,off,rfl,hcell⟩:=hc Za;refine⟨b,off+L*ei.size,by simp[add_lit],λi j hi hj=>?_⟩;obtain⟨u,hu,hr⟩:=hcell (L+i) j Za hj;refine⟨u, ?_,by rw[hf];exact hr⟩;rw[hs,Xk off,<- Xk (L*sz),<- Mf];exact hu
 have hM:∀(k:IntKind) (mm:Int),m=some mm->∃hv,hh=some hv/\mm=hv:=λk mm e=>by
  subst e;exact⟨mm,p3,rfl⟩
 rcases ja h hl with⟨rfl,eel⟩|⟨kl,nl,rfl,eel⟩<;>rcases ja h hhi with⟨rfl,eh⟩|⟨kh,nh,rfl,eh⟩ <;>
  rcases ja h hm with⟨rfl,em⟩|⟨km,nm,rfl,em⟩<;>rw[eel,eh,em]<;>simp only[bh]at p1 p2 p3
 .refine ⟨_, ?_,fin 0 n cap (Zb _) (Yb _) hcap (Yb _) rfl (λi j=>by simp[tf]) (λh=>hclip h)⟩
  simp[Instr.sliceAt,run_underlying h2,Instr.slice,Instr.sliceBounds,hsz]
 .cases p3
 .refine ⟨_, ?_,fin 0 nh.toNat cap (Zb _) Za Za (Yb _) rfl (λi j=>by simp[tf]) (λh=>by cases h)⟩
  have q2:0<=nh/\nh<=(cap:Nat):=by omega
  simp[Instr.sliceAt,run_underlying h2,Instr.slice,Instr.sliceBounds,hsz,c4 w kh nh cap _ q2]
 .simp only [Bb]at p3
  subst p3;refine⟨_, ?_,fin 0 nh.toNat nh.toNat (Zb _) Za Za Za rfl (λi j=>by simp[tf]) (λ_=>rfl)⟩;have q2:0<=nh/\nh<=(cap:Nat):=by omega
  have q3:0<=nh/\nh<=(nh.toNat:Nat):=by omega
  simp[Instr.sliceAt,run_underlying h2,Instr.slice,Instr.sliceBounds,hsz,c4 w km nh cap _ q2,c4 w kh nh nh.toNat _ q3]
 .refine ⟨_, ?_,fin nl.toNat n cap Za (Yb _) hcap (Yb _) rfl (λi j=>rfl) (λh=>hclip h)⟩
  have q1:0<=nl/\nl<=(n:Nat):=p1;simp[Instr.sliceAt,run_underlying h2,Instr.slice,Instr.sliceBounds,hsz,c4 w kl nl n _ q1]
 .cases p3
 .refine ⟨_, ?_,fin nl.toNat nh.toNat cap Za Za Za (Yb _) rfl (λi j=>rfl) (λh=>by cases h)⟩
  have q2:0<=nh/\nh<=(cap:Nat):=by omega
  have q1:0<=nl/\nl<=(nh.toNat:Nat):=by omega
  simp[Instr.sliceAt,run_underlying h2,Instr.slice,Instr.sliceBounds,hsz,c4 w kh nh cap _ q2,c4 w kl nl nh.toNat _ q1]
 simp only[Bb]at p3;subst p3;refine⟨_, ?_,fin nl.toNat nh.toNat nh.toNat Za Za Za Za rfl (λi j=>rfl) (λ_=>rfl)⟩;have q2:0<=nh/\nh<=(cap:Nat):=by omega
 have q3:0<=nh/\nh<=(nh.toNat:Nat):=by omega
 have q1:0<=nl/\nl<=(nh.toNat:Nat):=by omega
 simp[Instr.sliceAt,run_underlying h2,Instr.slice,Instr.sliceBounds,hsz,c4 w km nh cap _ q2,c4 w kh nh nh.toNat _ q3,c4 w kl nl nh.toNat _ q1]
theorem aow (a:Addr) (x y:Nat):(a.add x).add y=a.add (x+y):=by
 unfold Addr.add
 grind
def ph(a:Addr):a.add 0=a:=by unfold Addr.add;simp
def GU(h:ah w0 nt c s a w){el:TypeId}{sz:Nat}(h2:P.underlying t=some (.slice el))(hsz:(sizeOf el).run P w=.ok sz w){l hh m:Option Int}(hl:jk (ev s) lo=some l)(hhi:jk (ev s) hi=some hh)(hm:jk (ev s) mx=some m){id n i k cap:Nat}{ad ad':Option Addr}{ob:a8}{e:TypeId}(ho:s.o id=some ob)(hd:ob.dim=some (sz,e,n))(hown:c.own id=.slice ad n cap)(h5:i+k<=n)(h6:n<=cap)(h7:cap<=maxLen)(h8:i<cap->ad'=ad.map (·.add (i*sz)))(hp:sM k (n-i) l hh m):
 ∃v,(Instr.sliceAt t (.slice ad' k (cap-i)) (lo.map a.eval) (hi.map a.eval) (mx.map a.eval)).run P w=.ok v w/\ap c s.o (ym sz l hh m sz id n n i k).val v:=by
 have hbox:∀l,s.o id≠some (.box l):=λl hb=>by
  rw[ho]at hb;simp only[Bb]at hb;subst hb;cases hd
 have fin:∀(L H:Nat),L<=H->H<=n-i->bh 0 l=L->ep (bh k hh) l=H-L->m=none ->
  ap c s.o (ym sz l hh m sz id n n i k).val (.slice (if cap-i=L then ad' else ad'.map (·.add (L*sz))) (H-L) (cap-i-L)):=by
  intro L H q1 q2 q3 q4 q5;subst q5;simp only[ym,q3,q4];refine⟨rfl,hbox,λob2 s2 e2 n2 ho2 hd2=>?_⟩;rw[ho]at ho2;simp only[Bb]at ho2;subst ho2;rw[hd]at hd2;simp only[Bb,Tc]at hd2;obtain⟨rfl,rfl,rfl⟩:=hd2;refine⟨Yb _,λ_=>⟨ad,_,cap,hown,by rw[Nat.sub_sub],by omega,h6,h7,λhlt=>?_⟩⟩;rw[Ca Za,h8 Za,Option.map_map];congr 1;funext a;simp[aow,Mf]
 have any:∀(ad:Option Addr) (n cap:Nat) (mm:Int),m=some mm->ap c s.o (ym sz l hh m sz id n n i k).val (.slice ad n cap):=by
  intro ad n cap mm q;subst q;exact rfl
 obtain⟨p1,p2,p3⟩:=hp
 rcases ja h hl with⟨rfl,eel⟩|⟨kl,nl,rfl,eel⟩<;>rcases ja h hhi with⟨rfl,eh⟩|⟨kh,nh,rfl,eh⟩ <;>
  rcases ja h hm with⟨rfl,em⟩|⟨km,nm,rfl,em⟩<;>rw[eel,eh,em]<;>simp only[bh]at p1 p2 p3
 .refine ⟨_, ?_,fin 0 k (Zb _) Za rfl rfl rfl⟩
  simp[Instr.sliceAt,run_underlying h2,Instr.slice,Instr.sliceBounds,hsz]
 .exact p3.1.elim
 .refine ⟨_, ?_,fin 0 nh.toNat (Zb _) Za rfl rfl rfl⟩
  have q2:0<=nh/\nh<=(cap-i:Nat):=by omega
  simp[Instr.sliceAt,run_underlying h2,Instr.slice,Instr.sliceBounds,hsz,c4 w kh nh (cap-i) _ q2]
 .refine ⟨_, ?_,any (if nm.toNat=0 then ad' else ad'.map (·.add (0*sz))) (nh.toNat-0) (nm.toNat-0) _ rfl⟩
  have q2:0<=nm/\nm<=(cap-i:Nat):=by omega
  have q3:0<=nh/\nh<=(nm.toNat:Nat):=by omega
  simp[Instr.sliceAt,run_underlying h2,Instr.slice,Instr.sliceBounds,hsz,c4 w km nm (cap-i) _ q2,c4 w kh nh nm.toNat _ q3]
 .refine ⟨_, ?_,fin nl.toNat k Za Za rfl rfl rfl⟩
  have q1:0<=nl/\nl<=(k:Nat):=p1;simp[Instr.sliceAt,run_underlying h2,Instr.slice,Instr.sliceBounds,hsz,c4 w kl nl k _ q1]
 .exact p3.1.elim
 .refine ⟨_, ?_,fin nl.toNat nh.toNat Za Za rfl rfl rfl⟩
  have q2:0<=nh/\nh<=(cap-i:Nat):=by omega
  have q1:0<=nl/\nl<=(nh.toNat:Nat):=by omega
  simp[Instr.sliceAt,run_underlying h2,Instr.slice,Instr.sliceBounds,hsz,c4 w kh nh (cap-i) _ q2,c4 w kl nl nh.toNat _ q1]
 refine⟨_, ?_,any (if nm.toNat=nl.toNat then ad' else ad'.map (·.add (nl.toNat*sz))) (nh.toNat-nl.toNat) (nm.toNat-nl.toNat) _ rfl⟩;have q2:0<=nm/\nm<=(cap-i:Nat):=by omega
 have q3:0<=nh/\nh<=(nm.toNat:Nat):=by omega
 have q1:0<=nl/\nl<=(nh.toNat:Nat):=by omega
 simp[Instr.sliceAt,run_underlying h2,Instr.slice,Instr.sliceBounds,hsz,c4 w km nm (cap-i) _ q2,c4 w kh nh nm.toNat _ q3,c4 w kl nl nh.toNat _ q1]
def arn(hE:dl P E)(h:ah w0 nt c s a w)(hq:Gw E s.o (ev s) t x lo hi mx=some out)(hp:out.pre):
 ∃v,(Instr.sliceAt t (a.eval x) (lo.map a.eval) (hi.map a.eval) (mx.map a.eval)).run P w=.ok v w/\ap c s.o out.val v:=by
 unfold Gw at hq;split at hq<;>try(cases hq;done)
 rename_i ti hti;split at hq<;>try(cases hq;done)
 rename_i el hk;split at hq<;>try(cases hq;done)
 rename_i ei hei;split at hq<;>try(cases hq;done)
 rename_i l hh m hl hhi hm;split at hq<;>try(cases hq;done)
 rename_i hv hx;obtain⟨ii,d,h1,h2,h3,_⟩:=az (hE t ti hti);obtain rfl:=ez (h3.symm.trans hk);have hsz:=f5 (hE el ei hei) w;have hev:=ae h hx
 have ofRef:∀(id n sz n':Nat) (ob:a8) (e:TypeId),s.o id=some ob->ob.dim=some (sz,e,n')->(∃ad cap,c.own id=.slice ad n' cap/\n'<=cap/\cap<=maxLen)->bc c s.o (.ref id n) (a.eval x)->(ym ei.size l hh m sz id n' n 0 n).pre ->
  ∃v,(Instr.sliceAt t (a.eval x) (lo.map a.eval) (hi.map a.eval) (mx.map a.eval)).run P w=.ok v w/\ap c s.o (ym ei.size l hh m sz id n' n 0 n).val v:=by
  rintro id n sz n' ob e ho hd ⟨ad,cap,hv,hc1,hc2⟩ hr ⟨rfl,hs,hw⟩;subst hs;have hu:=((hr.2.2 _ _ _ _ ho hd).2 rfl).trans hv;rw[hu];exact GU (i:=0) (k:=n') (ad':=ad) h h2 hsz hl hhi hm ho hd hv Za hc1 hc2 (λ_=>by cases ad<;>simp[ph]) hw
 have ofWin:∀(id n sz n' i k:Nat) (ob:a8) (e:TypeId),s.o id=some ob->ob.dim=some (sz,e,n')->bc c s.o (.win id n i k) (a.eval x)->(ym ei.size l hh m sz id n' n i k).pre ->
  ∃v,(Instr.sliceAt t (a.eval x) (lo.map a.eval) (hi.map a.eval) (mx.map a.eval)).run P w=.ok v w/\ap c s.o (ym ei.size l hh m sz id n' n i k).val v:=by
  rintro id n sz n' i k ob e ho hd hr ⟨rfl,hs,hw⟩;subst hs;obtain⟨ad,ad',cap,q1,q2,q3,q4,q5,q6⟩:=(hr.2.2 _ _ _ _ ho hd).2 rfl;rw[q2];exact GU h h2 hsz hl hhi hm ho hd q1 q3 q4 q5 q6 hw
 unfold Yt at hq;split at hq<;>try(cases hq;done)
 .split at hq<;>try(cases hq;done)
  .rename_i ho
   simp only[Bb]at hq;subst hq;exact ofRef _ _ _ _ _ _ ho rfl (zm (h.objs _ _ ho)) hev hp
  rename_i ho;simp only[Bb]at hq;subst hq;exact ofRef _ _ _ _ _ _ ho rfl (UJ (h.objs _ _ ho)) hev hp
 split at hq<;>try(cases hq;done)
 .rename_i ho
  simp only[Bb]at hq;subst hq;exact ofWin _ _ _ _ _ _ _ _ ho rfl hev hp
 rename_i ho;simp only[Bb]at hq;subst hq;exact ofWin _ _ _ _ _ _ _ _ ho rfl hev hp
end
end
end
section
open Go.RowKit
section
variable {P:Program}{E:Xc}{w0:World}{nt:Nat}{c:Pc}{s:S}{a:Act}{w:World}
section
variable {out:Ge}{t:TypeId}{x:Operand}
def akr (hE:dl P E) (h:ah w0 nt c s a w) {ix:Operand} (hq:Jy E (ev s) t x ix=some out) (hp:out.pre):
 ∃v,(Instr.index t (a.eval x) (a.eval ix)).run P w=.ok v w/\ap c s.o out.val v:=by
 unfold Jy at hq;split at hq<;>try(cases hq;done)
 rename_i ti b k i hti hx hix;split at hq<;>try(cases hq;done)
 rename_i hk;simp only[Bb]at hq;subst hq;obtain⟨e1,_⟩:=ae h hx;obtain⟨e2,_⟩:=ae h hix;obtain⟨ii,d,h1,h2,h3,_⟩:=az (hE t ti hti);have:d=.string:=by cases d<;>simp_all [j1]
 subst this;rw[e1,e2];refine⟨_, ?_,ef rfl⟩;have hlt:i.toNat<b.size:=by have:=hp.2;have:=hp.1;omega
 have hb:b[i.toNat]? = some b[i.toNat]:=by simp[hlt]
 have hv:c5 b i.toNat=((b[i.toNat].toNat:Nat):Int):=by
  unfold c5;have h2:i.toNat<b.data.toList.length:=by simpa using hlt
  rw[Oc,Hc h2];rfl
 have hp0:0<=i:=hp.1;simp only[Instr.index,asIntOf,Nf,Mh,Rf,run_underlying h2,hp0,Ma,hb,hv]
def agf (h:ah w0 nt c s a w) {i:Nat} (hq:ug (ev s) x i=some out):
 ∃v,(Instr.extract (a.eval x) i).run P w=.ok v w/\ap c s.o out.val v:=by
 unfold ug at hq;split at hq<;>try(cases hq;done)
 rename_i l hx;split at hq<;>try(cases hq;done)
 rename_i cc hi;simp only[Bb]at hq;subst hq;obtain⟨us,e1,hl⟩:=ae h hx;obtain⟨u,hu,hr⟩:=hl.get i cc hi;rw[e1];exact⟨u,by simp[Instr.extract,hu],hr⟩
def arf(hE:dl P E)(h:ah w0 nt c s a w){b:Builtin}{args:List Operand}{tys:List TypeId}{ty:TypeId}{cs:Array Bool}(hq:ur E (ev s) b args tys=some out):∃v,(builtin b tys.toArray ty cs (args.map a.eval).toArray).run P w=.ok (.value v) w/\ap c s.o out.val v:=by
 unfold ur at hq;split at hq<;>try(cases hq;done)
 .rename_i x t tr
  split at hq<;>try(cases hq;done)
  rename_i ti hti;obtain⟨ii,d,h1,h2,h3,_⟩:=az (hE t ti hti);split at hq<;>try(cases hq;done)
  .rename_i hk hx
   simp only[Bb]at hq;subst hq;obtain⟨e1,_⟩:=ae h hx;have:d=.string:=by cases d<;>simp_all [j1]
   subst this;refine⟨_, ?_,ef rfl⟩;simp[builtin,Builtin.len_,e1,run_underlying h2,goInt]
  rename_i el hk hx;simp only[Bb]at hq;subst hq;obtain⟨ad,cap,e1,_⟩:=ae h hx;obtain rfl:=ez (h3.symm.trans hk);refine⟨_, ?_,ef rfl⟩;simp[builtin,Builtin.len_,e1,run_underlying h2,goInt]
 .rename_i x y _
  split at hq<;>try(cases hq;done)
  rename_i k p kk q hx hy;simp only[Bb]at hq;subst hq;obtain⟨e1,_⟩:=ae h hx;obtain⟨e2,_⟩:=ae h hy;refine⟨_, ?_,ef rfl⟩;simp[builtin,Builtin.min_,e1,e2,Builtin.min2]
 rename_i x y _;split at hq<;>try(cases hq;done)
 rename_i k p kk q hx hy;simp only[Bb]at hq;subst hq;obtain⟨e1,_⟩:=ae h hx;obtain⟨e2,_⟩:=ae h hy;refine⟨_, ?_,ef rfl⟩;simp[builtin,Builtin.max_,e1,e2,Builtin.max2]
def ah8(hE:dl P E)(h:ah w0 nt c s a w){b:Builtin}{args:List Operand}{tys:List TypeId}{ty:TypeId}{cs:Array Bool}(hq:wk E s.o (ev s) b args tys=some out)(hp:out.pre):∃v,(builtin b tys.toArray ty cs (args.map a.eval).toArray).run P w=.ok (.value v) w/\ap c s.o out.val v:=by
 unfold wk at hq;split at hq<;>try(cases hq;done)
 rename_i x t tr;split at hq<;>try(cases hq;done)
 rename_i ti hti;obtain⟨ii,d,h1,h2,h3,_⟩:=az (hE t ti hti);split at hq<;>try(cases hq;done)
 rename_i el hk;split at hq<;>try(cases hq;done)
 rename_i hv0 hx;unfold Qq at hq;split at hq<;>try(cases hq;done)
 .rename_i id n
  have key:∀(ob:a8) (sz:Nat) (e:TypeId) (n':Nat),s.o id=some ob->ob.dim=some (sz,e,n')->(∃ad cap,c.own id=.slice ad n' cap/\n'<=cap/\cap<=maxLen)->n'=n ->
   ∃v,(builtin .len (t::tr).toArray ty cs ([x].map a.eval).toArray).run P w=.ok (.value v) w/\ap c s.o (bu (.raw (.int .i64 n))) v:=by
   rintro ob sz e n' ho hdm hany rfl;obtain⟨_,_,h3'⟩:=ae h hx;obtain⟨_,hown⟩:=h3' _ _ _ _ ho hdm;have hu:=hown rfl;obtain rfl:=ez (h3.symm.trans hk);obtain⟨ad,cap,hv,_⟩:=hany;rw[hv]at hu;refine⟨_, ?_,ef rfl⟩;simp[builtin,Builtin.len_,hu,run_underlying h2,goInt]
  split at hq<;>try(cases hq;done)
  .rename_i wr sz e n' f ho
   simp only[Bb]at hq;subst hq;exact key _ _ _ _ ho rfl (zm (h.objs id _ ho)) hp
  .rename_i sz e n' ms f ho
   simp only[Bb]at hq;subst hq;exact key _ _ _ _ ho rfl (UJ (h.objs id _ ho)) hp
  rename_i e et es n' m g ho;simp only[Bb]at hq;subst hq;refine key _ _ _ _ ho rfl ?_ hp;obtain⟨ad,cap,q1,q2,q3,_⟩:=IJ (h.objs id _ ho);exact⟨ad,cap,q1,q2,q3⟩
 .rename_i id i k
  split at hq<;>try(cases hq;done)
  rename_i e et es n m g pd ho;simp only[Bb]at hq;subst hq;obtain⟨hi,rfl⟩:=hp;obtain⟨_,h3'⟩:=ae h hx;obtain⟨_,_,hrow⟩:=h3' _ _ _ _ _ _ _ ho;have hu:=hrow rfl;obtain rfl:=ez (h3.symm.trans hk);obtain⟨ad,cap,hv,_⟩:=oV (h.objs id _ ho) hi;rw[hv]at hu;refine⟨_, ?_,ef rfl⟩;simp[builtin,Builtin.len_,hu,run_underlying h2,goInt]
 rename_i id n wi wm
 have key:∀(ob:a8) (sz:Nat) (e:TypeId) (n':Nat),s.o id=some ob->ob.dim=some (sz,e,n')->(∃ad cap,c.own id=.slice ad n' cap/\n'<=cap/\cap<=maxLen)->n'=n ->
  ∃v,(builtin .len (t::tr).toArray ty cs ([x].map a.eval).toArray).run P w=.ok (.value v) w/\ap c s.o (bu (.raw (.int .i64 wm))) v:=by
  rintro ob sz e n' ho hdm hany rfl;obtain⟨_,_,h3'⟩:=ae h hx;obtain⟨_,hown⟩:=h3' _ _ _ _ ho hdm;obtain⟨_,_,_,_,hu,_⟩:=hown rfl;obtain rfl:=ez (h3.symm.trans hk);refine⟨_, ?_,ef rfl⟩;simp[builtin,Builtin.len_,hu,run_underlying h2,goInt]
 split at hq<;>try(cases hq;done)
 .rename_i wr sz e n' f ho
  simp only[Bb]at hq;subst hq;exact key _ _ _ _ ho rfl (zm (h.objs id _ ho)) hp
 rename_i sz e n' ms f ho;simp only[Bb]at hq;subst hq;exact key _ _ _ _ ho rfl (UJ (h.objs id _ ho)) hp
def zW (h:ah w0 nt c s a w):∀{xs:List Operand} {l:List PV},Dr (ev s) xs=some l->fv c.imm l (xs.map a.eval)
 | [],l,hl=>by simp[Dr]at hl;subst hl;trivial
 | x::xs,l,hl=>by
  simp only[Dr]at hl;split at hl<;>try(cases hl;done)
  rename_i y l' hx hr;simp only[Bb]at hl;subst hl;exact⟨ae h hx,zW h hr⟩
def MW (h:ah w0 nt c s a w):∀{xs:List Operand} {l:List HV},Mr (ev s) xs=some l->b7 c s.o l (xs.map a.eval)
 | [],l,hl=>by simp[Mr]at hl;subst hl;trivial
 | x::xs,l,hl=>by
  simp only[Mr]at hl;split at hl<;>try(cases hl;done)
  rename_i y l' hx hr;simp only[Bb]at hl;subst hl;exact⟨ae h hx,MW h hr⟩
def cX {c:Pc} {o:av}:∀{l:List HV} {us:List Value} {ps:List PV},b7 c o l us->l7 l=some ps->fv c.imm ps us
 | [],[],ps,_,h=>by simp[l7]at h;subst h;trivial
 | .p x::r,u::us,ps,hr,h=>by
  simp only[l7]at h;split at h<;>try(cases h;done)
  rename_i l hl;simp only[Bb]at h;subst h;exact⟨hr.1,cX hr.2 hl⟩
 | .ref _ _::_,_,_,_,h=>by simp[l7]at h
 | .ptr _ _::_,_,_,_,h=>by simp[l7]at h
 | .eptr _ _ _ _::_,_,_,_,h=>by simp[l7]at h
 | .win _ _ _ _::_,_,_,_,h=>by simp[l7]at h
 | .clo _ _ _::_,_,_,_,h=>by simp[l7]at h
 | .row _ _ _::_,_,_,_,h=>by simp[l7]at h
 | .rptr _ _ _ _ _::_,_,_,_,h=>by simp[l7]at h
 | .pin _ _ _ _::_,_,_,_,h=>by simp[l7]at h
 | [],_::_,_,hr,_=>hr.elim
 | .p _::_,[],_,hr,_=>hr.elim
theorem aps (h:ah w0 nt c s a w) {fn:Fn} {first caps:Array Operand} (hq:Lx (ev s) fn first.toList caps.toList=some out):
 ∃v,(Instr.makeFunc fn (first.map a.eval) (caps.map a.eval)).run P w=.ok v w/\ap c s.o out.val v:=by
 unfold Lx at hq;split at hq<;>try(cases hq;done)
 rotate_left
 .rename_i f x hfirst
  split at hq<;>try(cases hq;done)
  rename_i hs hcaps hx;split at hq<;>try(cases hq;done)
  rename_i l hl;simp only[Bb]at hq;subst hq
  have hf:first=#[x]:=by
   grind
  have hc:caps=#[]:=by
   grind
  subst hf hc;obtain⟨us,e1,hr⟩:=ae h hx;have hp:=cX hr hl;refine⟨.func (.func f) #[.agg us.toArray] #[],by simp[Instr.makeFunc,e1],us,rfl,hp.length,λi hi=>?_⟩;obtain⟨u,hu,Db⟩:=hp.get i l[i] (Hc hi)
  grind
 rename_i f hfirst
 have hf:first=#[]:=by
  grind
 subst hf;split at hq
 rotate_left
 .split at hq<;>try(cases hq;done)
  rename_i l hl;simp only[Bb]at hq;subst hq;have hr:=MW h hl;refine⟨.func (.func f) #[] (caps.map a.eval),by simp[Instr.makeFunc],caps.toList.map a.eval,by rw[<- Mo,Jq],by rw[hr.length],λi hi=>?_⟩;obtain⟨u,hu,Db⟩:=hr.get i l[i] (Hc hi)
  grind
 rename_i l hl;simp only[Bb]at hq;subst hq;have hr:=zW h hl;refine⟨.func (.func f) #[] (caps.map a.eval),by simp[Instr.makeFunc],caps.toList.map a.eval,by rw[<- Mo,Jq],by rw[hr.length],λi hi=>?_⟩;obtain⟨u,hu,Db⟩:=hr.get i l[i] (Hc hi)
 grind
def aro{o:Oper}(ho:o.op=.nilCheck x)(h:ah w0 nt c s a w)(hq:ta s.o (ev s) x=some out)(hp:out.pre):
 ∃v,(execOp a.eval o).run P w=.ok (.value v) w/\ap c s.o out.val v:=by
 unfold ta at hq;split at hq<;>try(cases hq;done)
 .rename_i g k cc hx
  simp only[Bb]at hq;subst hq;obtain⟨cs,e1,h2,h3⟩:=ae h hx;refine⟨_, ?_,cs,e1,h2,h3⟩;unfold execOp;simp[ho,e1]
 .rename_i g k cc hx
  simp only[Bb]at hq;subst hq;obtain⟨cs,e1,h2,h3⟩:=ae h hx;refine⟨_, ?_,cs,e1,h2,h3⟩;unfold execOp;simp[ho,e1]
 rename_i hh _ _ hx;split at hq<;>try(cases hq;done)
 rename_i p _ _ ht;simp only[Bb]at hq;subst hq;have hu:=ae h hx;obtain⟨ad,e1,_⟩:=yi h hu ht hp;refine⟨_, ?_,hu⟩;unfold execOp;simp[ho,e1]
def jX (hE : dl P E) : ∀ (fs : List Field) (l : List (Nat × Nat)), KB E (fs.map λf => (f.offset, f.type, f.name == "_")) = some l ->
 fs.mapM (λf=>(P.info? f.type).map λi=>(f.offset,i.size))=some l
 | [],l,h=>by simp[KB]at h;subst h;rfl
 | f::fs,l,h=>by
  simp only[Wh,KB]at h;split at h<;>try(cases h;done)
  rename_i fi l' hfi hr;simp only[Bb]at h;subst h;obtain⟨ii,d,h1,h2,h3,h4,_⟩:=az (hE _ _ hfi);simp[List.mapM_cons,h1,h4,jX hE fs l' hr]
theorem WK (o:Nat):∀(vs:List Value) (i:Nat) (cs:List Value),o+i+vs.length<=cs.length ->
 (vs.zipIdx i).foldl (λ(cs:Array Value) (p:Value×Nat)=>cs.setIfInBounds (o+p.2) p.1) cs.toArray=(cs.take (o+i)++vs++cs.drop (o+i+vs.length)).toArray
 | [],i,cs,_=>by simp
 | v::vs,i,cs,h=>by
  simp only[List.zipIdx_cons,Im];have hset:(cs.toArray.setIfInBounds (o+i) v)=(cs.set (o+i) v).toArray:=by simp
  rw[hset,WK o vs (i+1) (cs.set (o+i) v) (by simp at h ⊢;omega)];congr 1;have h':o+i+(vs.length+1)<=cs.length:=by simpa using h
  apply No;intro j;simp only[List.getElem?_append,Ae,Ni,Uc,Zf,Ih,Qo,List.getElem?_set]
  grind
def n3 {o:av} {x:HC} {u:Value} (h:gp c o x u):b7 c o x.cells u.cells.toList/\(x.cells.length=u.cells.size):=by
 cases x with
 | one h1 =>
  have hone:=bc.oneCell (c:=c) (o:=o) (h:=h1) h;have:u.cells=#[u]:=by cases u<;>simp_all [Value.cells,Value.oneCell']
  rw[this];exact⟨⟨h,Aa⟩,rfl⟩
 | agg l =>
  obtain⟨us,rfl,hl⟩:=h;exact⟨by simpa [Value.cells,HC.cells]using hl,by simp[Value.cells,HC.cells,hl.length]⟩
def Uh{p:Prop}(h:p:=by simp;omega):p:=h
theorem xm (h:ah w0 nt c s a w) (places:List (Nat×Nat)):∀(parts:List (Nat×Operand)) (cells:List HV) (us:List Value) (l:List HV),b7 c s.o cells us->iw (ev s) places cells parts=some l ->
 ∃vs:List Value,Instr.fill (λi=>places[i]?) us.toArray (parts.map λp=>(p.1,a.eval p.2))=some vs.toArray/\b7 c s.o l vs
 | [],cells,us,l,hc,hf=>by
  simp only[iw,Bb]at hf;subst hf;exact⟨us,by simp[Instr.fill],hc⟩
 | (i,x)::r,cells,us,l,hc,hf=>by
  simp only[iw]at hf;split at hf<;>try(cases hf;done)
  rename_i off size cc hpl hx;split at hf<;>try(cases hf;done)
  rename_i h1 h2;have h1:=Ga h1;have h2:=Ga h2;have hu:gp c s.o cc (a.eval x):=ae h hx;obtain⟨hcl,hsz⟩:=n3 hu;have hlen:=hc.length;have hset:b7 c s.o (bj cells off cc.cells) (us.take off++(a.eval x).cells.toList++us.drop (off+cc.cells.length)):=((hc.take off).append hcl).append (hc.drop _);obtain⟨vs,hv,hr⟩:=xm h places r _ _ l hset hf;refine⟨vs, ?_,hr⟩;simp only[Wh,Instr.fill,hpl]
  have hb:((a.eval x).cells.size≠size||off+(a.eval x).cells.size > us.toArray.size)=false:=by
   grind
  have hb':¬(decide ((a.eval x).cells.size≠size)||decide (off+(a.eval x).cells.size > us.toArray.size))=true:=by
   grind
  rw[Ca hb'];have hfold:=WK off (a.eval x).cells.toList 0 us Uh;simp only[Fi,Zh]at hfold
  have hz:(a.eval x).cells.zipIdx.foldl (λcs (p:Value×Nat)=>cs.setIfInBounds (off+p.2) p.1) us.toArray=((a.eval x).cells.toList.zipIdx 0).foldl (λ(cs:Array Value) (p:Value×Nat)=>cs.setIfInBounds (off+p.2) p.1) us.toArray:=by
   rw[<- Array.foldl_toList];simp
  grind
def uU{f g:Nat->Option (Nat×Nat)}(hfg:∀i p,f i=some p->g i=some p):∀{parts:List (Nat×Value)} {cells out:Array Value},Instr.fill f cells parts=some out->Instr.fill g cells parts=some out
 | [],_,_,h=>h
 | (i,v)::r,cells,out,h=>by
  unfold Instr.fill at h ⊢
  cases hp:f i with
  |none=>rw[hp]at h;cases h
  | some p =>
   obtain⟨off,size⟩:=p;rw[hp]at h;rw[hfg i _ hp];dsimp only at h ⊢;split at h
   .cases h
   rename_i hn;rw[Ca hn];exact uU hfg h
theorem aku (hE:dl P E) (h:ah w0 nt c s a w) {parts:Array (Nat×Operand)} (hq:My E (ev s) t parts.toList=some out):
 ∃v,(Instr.build t (parts.map λ(i,x)=>(i,a.eval x))).run P w=.ok v w/\ap c s.o out.val v:=by
 unfold My at hq;split at hq<;>try(cases hq;done)
 rename_i i hi;split at hq<;>try(cases hq;done)
 .rename_i fs z hk hz
  split at hq<;>try(cases hq;done)
  rename_i places hpl hone;split at hq<;>try(cases hq;done)
  rename_i l hf;simp only[Bb]at hq;subst hq;obtain⟨ii,d,h1,h2,h3,h4,h5,h6,_⟩:=az (hE t i hi);obtain⟨fa,rfl,hfa⟩:=xo (h3.symm.trans hk);rw[hfa]at hpl;have hplaces:=jX hE fa.toList places hpl;rw[hz]at h6
  cases hiz:ii.zero with
  |none=>rw[hiz]at h6;cases h6
  | some zv =>
   rw[hiz]at h6;simp only[Vf,Bb]at h6;obtain⟨vs,hv,hr⟩:=xm h places parts.toList _ z l (vw c s.o z (jt hone)) hf;refine⟨.agg vs.toArray, ?_,vs,rfl,hr⟩;refine run_build w t _ vs.toArray ?_;unfold Program.built;simp_all
 rename_i n el z hk hz;split at hq<;>try(cases hq;done)
 rename_i ie hie hone;split at hq<;>try(cases hq;done)
 rename_i l hf;simp only[Bb]at hq;subst hq;obtain⟨ii,d,h1,h2,h3,h4,h5,h6,_⟩:=az (hE t i hi);obtain⟨je,de,g1,g2,g3,g4,g5,g6,_⟩:=az (hE el ie hie);have hd:=jW (h3.symm.trans hk);subst hd;rw[hz]at h6
 cases hiz:ii.zero with
 |none=>rw[hiz]at h6;cases h6
 | some zv =>
  rw[hiz]at h6;simp only[Vf,Bb]at h6;obtain⟨vs,hv,hr⟩:=xm h _ parts.toList _ z l (vw c s.o z (jt hone)) hf
  have hv:=uU (g:=λk=>some (k*ie.size,ie.size)) (λk p hp=>by
   rw[Pe]at hp;by_cases hk:k<n
   .grind
   rw[Nz Uh]at hp;cases hp) hv
  refine⟨.agg vs.toArray, ?_,vs,rfl,hr⟩;refine run_build w t _ vs.toArray ?_;unfold Program.built;simp_all
def mX (w:World) (d:Nat) (t e:TypeId) (ad:Option Addr) (l cp:Nat) (h:P.underlying t=some (.slice e)):(Op.equalIn (d+1) t (.slice ad l cp) (.slice none 0 0)).run P w=.ok ad.isNone w:=by
 cases ad<;>simp[Op.equalIn,run_underlying h]
def ant (w:World) (t e:TypeId) (ad:Option Addr) (l cp:Nat) (h:P.underlying t=some (.slice e)):(binOp .eql t (.slice ad l cp) (.slice none 0 0)).run P w=.ok (.bool ad.isNone) w:=by
 have h1:binOp .eql t (.slice ad l cp) (.slice none 0 0)=(Op.equal t (.slice ad l cp) (.slice none 0 0) >>= λb=>pure (.bool b)):=by simp only[binOp]
 have h2:(Op.equal t (.slice ad l cp) (.slice none 0 0)).run P w=.ok ad.isNone w:=mX w 9999 t e ad l cp h;simp_all
def aok (w:World) (t e:TypeId) (ad:Option Addr) (l cp:Nat) (h:P.underlying t=some (.slice e)):(binOp .neq t (.slice ad l cp) (.slice none 0 0)).run P w=.ok (.bool (!ad.isNone)) w:=by
 have h1:binOp .neq t (.slice ad l cp) (.slice none 0 0)=(Op.equal t (.slice ad l cp) (.slice none 0 0) >>= λb=>pure (.bool (!b))):=by simp only[binOp]
 have h2:(Op.equal t (.slice ad l cp) (.slice none 0 0)).run P w=.ok ad.isNone w:=mX w 9999 t e ad l cp h;simp_all
theorem ail (hE:dl P E) (h:ah w0 nt c s a w) {op:BinOp} {y:Operand} (hq:ww E (ev s) op t x y=some out) (hp:out.pre):
 ∃v,(do eqGuard op t x y (a.eval x) (a.eval y);binOp op t (a.eval x) (a.eval y):Sem Value).run P w=.ok v w/\ap c s.o out.val v:=by
 unfold ww at hq;split at hq<;>try(cases hq;done)
 split at hq<;>try(cases hq;done)
 rename_i i hi;split at hq<;>try(cases hq;done)
 rename_i el hk;obtain⟨ii,d,h1,h2,h3,_⟩:=az (hE t i hi);obtain rfl:=ez (h3.symm.trans hk);have hg:∀ad l cp,(eqGuard op t x (.const (.slice none 0 0)) (.slice ad l cp) (.slice none 0 0)).run P w=.ok () w:=by intro ad l cp;cases op<;>simp[eqGuard]
 have core:∀ad l cp,a.eval x=.slice ad l cp->oB op ad=some out->∃v,(do eqGuard op t x (.const (.slice none 0 0)) (a.eval x) (a.eval (.const (.slice none 0 0)));binOp op t (a.eval x) (a.eval (.const (.slice none 0 0))):Sem Value).run P w=.ok v w/\ap c s.o out.val v:=by
  intro ad l cp he hn;have e2:a.eval (.const (.slice none 0 0))=.slice none 0 0:=rfl;rw[he,e2,Nf,hg,Rf];cases op<;>simp only[oB]at hn<;>try(cases hn;done)
  .simp only [Bb]at hn;subst hn
   exact⟨_,ant w t el ad l cp h2,ef rfl⟩
  simp only[Bb]at hn;subst hn;exact⟨_,aok w t el ad l cp h2,ef rfl⟩
 split at hq<;>try(cases hq;done)
 .rename_i n sz cl f hx
  obtain⟨ad,cap,e1,_,_,_,hc⟩:=ae h hx
  have hn:0<n:=by
   cases op<;>simp only[nH]at hq<;>first|(cases hq;done)|(simp only[Bb]at hq;subst hq;exact hp)
  obtain⟨b,off,rfl,_⟩:=hc hn;refine core _ _ _ e1 ?_;cases op<;>simp only[nH]at hq<;>first|(cases hq;done)|skip
  .simp only [Bb]at hq;subst hq
   have:(0<n)=True:=by simp[hn]
   simp[oB,this]
  simp only[Bb]at hq;subst hq;have:(0<n)=True:=by simp[hn]
  simp[oB,this]
 rename_i ad l cp hx;obtain⟨e1,_⟩:=ae h hx
 grind
def apx {d:TypeDesc} {e:TypeId} (h:j1 d=.pointer e):d=.pointer e:=by
 cases d<;>simp[j1]at h;rw[h]
def nX (w:World) (d:Nat) (t e:TypeId) (p:Option Addr) (h:P.underlying t=some (.pointer e)):(Op.equalIn (d+1) t (.pointer p) (.pointer none)).run P w=.ok p.isNone w:=by
 cases p<;>simp[Op.equalIn,run_underlying h]
def ang (w:World) (t e:TypeId) (p:Option Addr) (h:P.underlying t=some (.pointer e)):(binOp .eql t (.pointer p) (.pointer none)).run P w=.ok (.bool p.isNone) w:=by
 have h1:binOp .eql t (.pointer p) (.pointer none)=(Op.equal t (.pointer p) (.pointer none) >>= λb=>pure (.bool b)):=by simp only[binOp]
 have h2:(Op.equal t (.pointer p) (.pointer none)).run P w=.ok p.isNone w:=nX w 9999 t e p h;simp_all
def ao7 (w:World) (t e:TypeId) (p:Option Addr) (h:P.underlying t=some (.pointer e)):(binOp .neq t (.pointer p) (.pointer none)).run P w=.ok (.bool (!p.isNone)) w:=by
 have h1:binOp .neq t (.pointer p) (.pointer none)=(Op.equal t (.pointer p) (.pointer none) >>= λb=>pure (.bool (!b))):=by simp only[binOp]
 have h2:(Op.equal t (.pointer p) (.pointer none)).run P w=.ok p.isNone w:=nX w 9999 t e p h;simp_all
theorem ai8 (hE:dl P E) (h:ah w0 nt c s a w) {op:BinOp} {y:Operand} (hq:lp E s.o (ev s) op t x y=some out) (hp:out.pre):
 ∃v,(do eqGuard op t x y (a.eval x) (a.eval y);binOp op t (a.eval x) (a.eval y):Sem Value).run P w=.ok v w/\ap c s.o out.val v:=by
 unfold lp at hq;split at hq<;>try(cases hq;done)
 split at hq<;>try(cases hq;done)
 rename_i i hi;split at hq<;>try(cases hq;done)
 rename_i el hk;obtain⟨ii,d,h1,h2,h3,_⟩:=az (hE t i hi);obtain rfl:=apx (h3.symm.trans hk);have hg:∀p,(eqGuard op t x (.const (.pointer none)) (.pointer p) (.pointer none)).run P w=.ok () w:=by intro p;cases op<;>simp[eqGuard]
 have core:∀p,a.eval x=.pointer p->PD op p.isNone=some out->∃v,(do eqGuard op t x (.const (.pointer none)) (a.eval x) (a.eval (.const (.pointer none)));binOp op t (a.eval x) (a.eval (.const (.pointer none))):Sem Value).run P w=.ok v w/\ap c s.o out.val v:=by
  intro p he hn;have e2:a.eval (.const (.pointer none))=.pointer none:=rfl;rw[he,e2,Nf,hg,Rf];cases op<;>simp only[PD]at hn<;>try(cases hn;done)
  .simp only [Bb]at hn;subst hn
   exact⟨_,ang w t el p h2,ef rfl⟩
  simp only[Bb]at hn;subst hn;exact⟨_,ao7 w t el p h2,ef rfl⟩
 split at hq<;>try(cases hq;done)
 rename_i hv hx;have hr:=ae h hx;unfold rB at hq;split at hq<;>try(cases hq;done)
 .rename_i id off
  split at hq<;>try(cases hq;done)
  rename_i l hl;obtain⟨b,_,hu⟩:=hr.2.2 l hl
  grind
 rename_i p;exact core p hr.1 hq
def amp{o:Oper}{x0 y:Operand}(ho:o.op=.pick x0 x y)(h:ah w0 nt c s a w)(hq:Px (ev s) x0 x y=some out)(hp:out.pre):
 ∃v,(execOp a.eval o).run P w=.ok (.value v) w/\ap c s.o out.val v:=by
 unfold Px at hq;split at hq<;>try(cases hq;done)
 rename_i b hb;obtain⟨e1,_⟩:=ae h hb;have hrun:(execOp a.eval o).run P w=.ok (.value (if b then a.eval x else a.eval y)) w:=by simp[execOp,ho,e1,asBool]
 refine⟨_,hrun, ?_⟩;unfold tO at hq;split at hq
 .rename_i u v hx hy
  simp only[Bb]at hq;subst hq;obtain⟨e2,_⟩:=ae h hx;obtain⟨e3,_⟩:=ae h hy;rw[e2,e3];cases b<;>exact⟨rfl,rfl⟩
 .rename_i r hx hy
  simp only[Bb]at hq;subst hq;have hp:b=true:=hp;subst hp;exact ae h hx
 .rename_i r _ hx hy
  simp only[Bb]at hq;subst hq;have hp:b=true:=hp;subst hp;exact ae h hx
 .rename_i r hx hy
  simp only[Bb]at hq;subst hq;have hp:b=false:=hp;subst hp;exact ae h hy
 .rename_i r _ _ hx hy
  simp only[Bb]at hq;subst hq;have hp:b=false:=hp;subst hp;exact ae h hy
 .rename_i r r' _ _ _ hx hy
  cases b
  .simp only [Bb]at hq
   subst hq;exact ae h hy
  simp only[Bb]at hq;subst hq;exact ae h hx
 cases hq
def bT{k:TypeId}{ki:TI}(hE:dl P E)(hk:E k=some ki){kk:KK}(hkk:Vs ki.k=some kk):Go.Maps.Keyed P k/\∀m,MK.ok kk m->∃l,keyOf P k m.val=some l:=by
 obtain⟨ii,d,h1,h2,h3,_⟩:=az (hE k ki hk);rw[h3]at hkk;cases d<;>simp only[j1,Vs]at hkk<;>try(cases hkk;done)
 .rename_i q
  simp only[Bb]at hkk;subst hkk;refine⟨Go.Maps.int_keyed h2,λm hm=>?_⟩
  cases m with
  | i q' n =>
   obtain⟨rfl,hw⟩:=hm;exact⟨_,Go.Maps.keyOf_int_mk h2 hw⟩
  |s b=>exact hm.elim
 simp only[Bb]at hkk;subst hkk;refine⟨Go.Maps.string_keyed h2,λm hm=>?_⟩
 cases m with
 |i q' n=>exact hm.elim
 |s b=>exact⟨_,Go.WideMaps.keyOf_string_mk h2 hm⟩
theorem DS (hE:dl P E) {kt et:TypeId} {kk:KK} {z:Value} (ht:P.underlying t=some (.map kt et)) (hlk:lD E kt et=some (kk,z)) {b:Nat} {es:Array MapEntry} {clock:Nat} (q4:w.heap[b]? = some (.map es clock)) (q5:Go.MapKept.Stamped es clock) (q7:es.size<=maxLen) {has:MK->Prop} {R:MK->Value->Prop} (q8:∀x∈es.toList,∃key,x.key=key.val/\has key/\R key x.val) (q9:∀key,has key->MK.ok kk key/\∃x∈es.toList,x.key=key.val) {m:MK} (hok:MK.ok kk m) (cm:Bool):
 z.oneCell'=true/\((¬has m/\(Instr.lookup t (.map (some b)) m.val cm).run P w=.ok (if cm then .tuple #[z, .bool false]else z) w) \/
 ∃v,has m/\R m v/\(Instr.lookup t (.map (some b)) m.val cm).run P w=.ok (if cm then .tuple #[v, .bool true]else v) w):=by
 unfold lD at hlk;split at hlk<;>try(cases hlk;done)
 rename_i ki ei hki hei;split at hlk<;>try(cases hlk;done)
 rename_i kk2 z2 e1 e2 e3;simp only[Bb,Tc]at hlk;obtain⟨rfl,rfl⟩:=hlk;obtain⟨hz,hz1⟩:=azy (hE et ei hei) e3 e2 w;obtain⟨K,hkey⟩:=bT hE hki e1;obtain⟨l,hl⟩:=hkey m hok;refine⟨hz1, ?_⟩
 rcases MT cm K ht hz q4 q7 q5 (λx hx=>by
  obtain⟨key,r1,r2,_⟩:=q8 x hx;rw[r1]
  exact hkey key (q9 key r2).1) hl with⟨hrun,hno⟩|⟨e0,he0,hk0,hrun⟩
 .grind
 obtain⟨key,r1,r2,r3⟩:=q8 e0 he0;have hkm:key=m:=MK.val_inj (r1.symm.trans hk0)
 grind
theorem ahc (hE:dl P E) (h:ah w0 nt c s a w) {ix:Operand} {cm:Bool} (hq':li E s.o (ev s) t x ix cm=some out) (hp:out.pre):
 ∃v,(Instr.lookup t (a.eval x) (a.eval ix) cm).run P w=.ok v w/\ap c s.o out.val v:=by
 unfold li at hq';split at hq'<;>try(cases hq';done)
 rename_i i hi;split at hq'<;>try(cases hq';done)
 rename_i kt et hmk;split at hq'<;>try(cases hq';done)
 rename_i kk z hlk;split at hq'<;>try(cases hq';done)
 rename_i kv hix;split at hq'<;>try(cases hq';done)
 rename_i m hm;split at hq'<;>try(cases hq';done)
 rename_i hv hx;obtain⟨ii,d,h1,h2,h3,_⟩:=az (hE t i hi)
 have ht:P.underlying t=some (.map kt et):=by
  rw[h2];have h4:=h3.symm.trans hmk;cases d<;>simp[j1]at h4
  grind
 obtain⟨hu2,_⟩:=ae h hix;have hmv:=fU hm;rw[hu2,<- hmv];unfold CA at hq';split at hq'<;>try(cases hq';done)
 .rename_i kk' n has f
  have hp':kk'=kk/\MK.ok kk m:=by
   grind
  obtain⟨rfl,hok⟩:=hp';obtain⟨b,es,clock,q1,q4,q5,q6,q7,q8,q9⟩:=ae h hx;rw[q1];obtain⟨hz1,⟨hno,hrun⟩|⟨v,hyes,hR,hrun⟩⟩:=DS (has:=λk=>has k=true) (R:=λk v=>aq c.imm (f k) v) hE ht hlk (h.imm _ _ q4) q5 q7 q8 q9 hok cm
  .refine ⟨_,hrun, ?_⟩
   have hat:By has f m z=io z:=by unfold By;rw[Hz _ |>.mp hno]
   rw[hat]at hq'
   cases cm with
   | true =>
    simp only[Bb]at hq';subst hq';rw[Hz _ |>.mp hno];exact⟨[z, .bool false],rfl,oz _ _ hz1,⟨rfl,rfl⟩,Aa⟩
   | false =>
    simp only[Bb]at hq';subst hq';exact oz _ _ hz1
  refine⟨_,hrun, ?_⟩;have hat:By has f m z=f m:=by unfold By;rw[hyes]
  rw[hat]at hq'
  cases cm with
  | true =>
   simp only[Bb]at hq';subst hq';rw[hyes];exact⟨[v, .bool true],rfl,hR,⟨rfl,rfl⟩,Aa⟩
  | false =>
   simp only[Bb]at hq';subst hq';exact hR
 rename_i id k0;split at hq'<;>try(cases hq';done)
 rename_i kk' n f hob;obtain⟨b,es,clock,q1,q2,q3,q4,q5,q6,q7,q8,q9⟩:=h.objs id _ hob;obtain⟨_,_,g3⟩:=ae h hx;obtain⟨g4,g5⟩:=g3 _ _ _ _ hob rfl;have hu:a.eval x=.map (some b):=by rw[g5 Za,q1]
 have hp':kk'=kk/\MK.ok kk m:=by
  grind
 obtain⟨rfl,hok⟩:=hp';rw[hu]
 obtain ⟨hz1,⟨hno,hrun⟩|⟨v,_,⟨y,hy,hR⟩,hrun⟩⟩:=DS (has:=λk=>f k≠none) (R:=λk v=>∃y,f k=some y/\aq c.imm y v) hE ht hlk q4 q5 q7
  (λx hx=>by
   obtain⟨key,y,r1,r2,r3⟩:=q8 x hx
   exact⟨key,r1,by rw[r2];simp,y,r2,r3⟩)
  (λkey hk=>by
   cases hf:f key with
   |none=>exact Ea hf hk
   |some y=>exact q9 key y hf) hok cm
 .have hf:f m=none:=Classical.not_not.1 hno
  have hat:Ot f m z=io z:=by unfold Ot;rw[hf]
  have hhas:FA f m=false:=by unfold FA;rw[hf]
  refine⟨_,hrun, ?_⟩
  cases cm with
  | true =>
   simp only[Bb]at hq';subst hq';rw[hat,hhas];exact⟨[z, .bool false],rfl,oz _ _ hz1,⟨rfl,rfl⟩,Aa⟩
  | false =>
   simp only[Bb]at hq';subst hq';rw[hat];exact oz _ _ hz1
 have hat:Ot f m z=y:=by unfold Ot;rw[hy]
 have hhas:FA f m=true:=by unfold FA;rw[hy]
 refine⟨_,hrun, ?_⟩
 cases cm with
 | true =>
  simp only[Bb]at hq';subst hq';rw[hat,hhas];exact⟨[v, .bool true],rfl,hR,⟨rfl,rfl⟩,Aa⟩
 | false =>
  simp only[Bb]at hq';subst hq';rw[hat];exact hR
def b4f(hE:dl P E){ex:Bool}(h:ah w0 nt c s a w){o:Oper}(hq':hq E ex s.o (ev s) o.op=some out)(hp:out.pre):
 ∃v,(execOp a.eval o).run P w=.ok (.value v) w/\ap c s.o out.val v:=by
 cases ho:o.op<;>rw[ho]at hq'<;>simp only[hq]at hq'<;>try(cases hq';done)
 case move x =>
  cases hx:ev s x with
  |none=>rw[hx]at hq';cases hq'
  | some r =>
   rw[hx]at hq';simp only[Vf,Bb]at hq';subst hq';exact⟨_,by simp[execOp,ho],ae h hx⟩
 case assign x =>
  cases hx:ev s x with
  |none=>rw[hx]at hq';cases hq'
  | some r =>
   rw[hx]at hq';simp only[Vf,Bb]at hq';subst hq';exact⟨_,by simp[execOp,ho],ae h hx⟩
 case pick cc x y=>exact amp ho h hq' hp
 case nilCheck x=>exact aro ho h hq' hp
 case load t x =>
  obtain⟨v,h1,h2⟩:=RW hE h hq' hp;exact⟨v,by simp[execOp,ho,h1],h2⟩
 case fieldAddr t x k =>
  obtain⟨v,h1,h2⟩:=ab5 hE h hq' hp;exact⟨v,by simp[execOp,ho,h1],h2⟩
 case field t x k =>
  obtain⟨v,h1,h2⟩:=akx hE h hq';exact⟨v,by simp[execOp,ho,h1],h2⟩
 case indexAddr t x i =>
  obtain⟨v,h1,h2⟩:=ab3 hE h hq' hp;exact⟨v,by simp[execOp,ho,h1],h2⟩
 case lookup t x i cm =>
  obtain⟨v,h1,h2⟩:=ahc hE h hq' hp;exact⟨v,by simp[execOp,ho,h1],h2⟩
 case index t x i =>
  obtain⟨v,h1,h2⟩:=akr hE h hq' hp;exact⟨v,by simp[execOp,ho,h1],h2⟩
 case binOp op t x y ty =>
  obtain ⟨v,h1,h2⟩:∃v,(do eqGuard op t x y (a.eval x) (a.eval y);binOp op t (a.eval x) (a.eval y):Sem Value).run P w=.ok v w/\ap c s.o out.val v:=by
   split at hq'
   .rename_i r hr
    simp only[Bb]at hq';subst hq';exact ail hE h hr hp
   split at hq'
   .rename_i r hr
    simp only[Bb]at hq';subst hq';exact ai8 hE h hr hp
   exact arv hE h hq' hp
  refine⟨v, ?_,h2⟩;unfold execOp;simp only[ho];rw[Nf,h1];rfl
 case unOp op t x =>
  obtain⟨v,h1,h2⟩:=axb (P:=P) h hq' hp;exact⟨v,by simp[execOp,ho,h1],h2⟩
 case convert src dst x =>
  obtain⟨v,h1,h2⟩:=amf hE h hq' hp;exact⟨v,by simp[execOp,ho,h1],h2⟩
 case extract x i =>
  obtain⟨v,h1,h2⟩:=agf (P:=P) h hq';exact⟨v,by simp[execOp,ho,h1],h2⟩
 case slice t x lo hi mx =>
  obtain ⟨v,h1,h2⟩:∃v,(Instr.sliceAt t (a.eval x) (lo.map a.eval) (hi.map a.eval) (mx.map a.eval)).run P w=.ok v w/\ap c s.o out.val v:=by
   split at hq'
   .rename_i r hr
    simp only[Bb]at hq';subst hq';exact XW hE h hr hp
   exact arn hE h hq' hp
  exact⟨v,by simp[execOp,ho,h1],h2⟩
 case makeFunc fn first caps =>
  obtain⟨v,h1,h2⟩:=aps (P:=P) h hq';exact⟨v,by simp[execOp,ho,h1],h2⟩
 case build t parts =>
  obtain⟨v,h1,h2⟩:=aku hE h hq';exact⟨v,by simp[execOp,ho,h1],h2⟩
 case call cl =>
  split at hq'<;>try(cases hq';done)
  rename_i b hb
  have hrun:∀v,(builtin b cl.argTypes o.type (cl.args.map λ| .const _=>true|_=>false) (cl.args.map a.eval)).run P w=.ok (.value v) w->(execOp a.eval o).run P w=.ok (.value v) w:=by
   intro v hv;unfold execOp;simp only[ho,resolve,hb,Nf,Mh,Rf,invoke];exact hv
  split at hq'
  .rename_i r hr
   simp only[Bb]at hq';subst hq';obtain⟨v,h1,h2⟩:=arf (ty:=o.type) (cs:=cl.args.map λ| .const _=>true|_=>false) hE h hr;exact⟨v,hrun v (by rw[<- Mo,Jq,Jq]at h1;exact h1),h2⟩
  obtain⟨v,h1,h2⟩:=ah8 (ty:=o.type) (cs:=cl.args.map λ| .const _=>true|_=>false) hE h hq' hp;exact⟨v,hrun v (by rw[<- Mo,Jq,Jq]at h1;exact h1),h2⟩
end
end
end
section
open Go.RowKit
def aE(e:Ev)(sz n:Nat):List (Nat×Operand)->List HV->Option (List HV):=λparts cells=>iw e ((List.range n).map λi=>(i*sz,sz)) cells parts
def mj:List HV->Option (List PV)
 | []=>some []
 | .p x::r=>match mj r with|some l=>some (x::l)|none=>none
 |_::_=>none
def t6 {c:Pc} {o:av}:∀{l:List HV} {us:List Value} {ps:List PV},b7 c o l us->mj l=some ps->fv c.imm ps us
 | [],[],ps,_,h=>by simp[mj]at h;subst h;trivial
 | .p x::r,u::us,ps,hr,h=>by
  simp only[mj]at h;split at h<;>try(cases h;done)
  rename_i l hl;simp only[Bb]at h;subst h;exact⟨hr.1,t6 hr.2 hl⟩
 | .ref _ _::_,_,_,_,h=>by simp[mj]at h
 | .ptr _ _::_,_,_,_,h=>by simp[mj]at h
 | .eptr _ _ _ _::_,_,_,_,h=>by simp[mj]at h
 | .win _ _ _ _::_,_,_,_,h=>by simp[mj]at h
 | .clo _ _ _::_,_,_,_,h=>by simp[mj]at h
 | .row _ _ _::_,_,_,_,h=>by simp[mj]at h
 | .rptr _ _ _ _ _::_,_,_,_,h=>by simp[mj]at h
 | .pin _ _ _ _::_,_,_,_,h=>by simp[mj]at h
 | [],_::_,_,hr,_=>hr.elim
 | .p _::_,[],_,hr,_=>hr.elim
def mA (f:Nat->List Nat):Nat->List Nat
 |0=>[]
 |n+1=>mA f n++f n
def nS{f:Nat->List Nat}{k:Nat}:∀{n:Nat},k∈mA f n<->∃i,i<n/\k∈f i
 |0=>by simp[mA]
 | n + 1=>by
  simp only[mA,Af,nS (n:=n)];constructor
  .rintro (⟨i,h1,h2⟩|h)
   .exact⟨i,by omega,h2⟩
   exact⟨n,by omega,h⟩
  rintro⟨i,h1,h2⟩;by_cases h:i=n
  .subst h;exact .inr h2
  exact .inl ⟨i,by omega,h2⟩
def HV.ids:HV->List Nat
 | .p _=>[]
 | .ref id _=>[id]
 | .ptr id _=>[id]
 | .eptr id _ _ _=>[id]
 | .win id _ _ _=>[id]
 | .clo _ k caps=>mA (λi=>(caps i).ids) k
 | .row id _ _=>[id]
 | .rptr id _ _ _ _=>[id]
 | .pin id _ _ _=>[id]
def jp:List HV->List Nat
 | []=>[]
 |h::r=>h.ids++jp r
theorem HV.men_ids' {h:HV} {k:Nat}:h.men k<->k∈h.ids:=by
 induction h with
 | clo g n caps ih =>
  simp only[HV.men,HV.ids,nS];exact exists_congr λi=>and_congr Oa (ih i)
 |_=>simp[HV.men,HV.ids]
theorem HV.men_ids{h:HV}{k:Nat}:h.men k->k∈h.ids:=HV.men_ids'.1
def ol:∀{l:List HV} {k:Nat},(∃h∈l,h.men k)->k∈jp l
 | h::r,k,⟨x,hx,hm⟩=>by
  rcases Jd.1 hx with rfl|hx
  .exact Ig _ (HV.men_ids hm)
  exact Bh _ (ol ⟨x,hx,hm⟩)
def Pf:∀{l:List HV} {k:Nat},k∈jp l->∃h∈l,h.men k
 | h::r,k,hk=>by
  rcases Af.1 hk with hk|hk
  .exact⟨h,by simp,HV.men_ids'.2 hk⟩
  obtain⟨x,hx,hm⟩:=Pf hk;exact⟨x,by simp[hx],hm⟩
structure Uy where
 pre:Prop
 val:HR
 ob:a8
def BG (t:TypeId) (z:List Value):Option TypeId :=
 match bao with
 | some (T,e) =>
  match Nat.beq t T,z with
  |true,[.pointer none, .slice none 0 0]=>some e
  |_,_=>none
 |none=>none
def avi{t e:TypeId}{z:List Value}(h:BG t z=some e):z=[.pointer none, .slice none 0 0]:=by
 unfold BG at h;split at h
 .split at h
  .rfl
  cases h
 cases h
def ha(E:Xc)(e:Ev)(id:Nat):Op->Option Uy
 | .alloc t =>
  match E t with
  | some i =>
   match i.zero with
   | some z =>
    match BG t z with
    |some e=>some ⟨True, .v (.one (.ref id 0)), .bld true t e []⟩
    |none=>match re z with|true=>some ⟨True, .v (.one (.ptr id 0)), .box (z.map λc=>.p (io c))⟩|false=>none
   |none=>none
  |none=>none
 | .box _ x =>
  match e x with
  |some (.v c)=>some ⟨True, .v (.one (.ptr id 0)), .box c.cells⟩
  |_=>none
 | .buildSlice t n parts =>
  match E t with
  | some i =>
   match i.k with
   | .slice el =>
    match E el with
    | some ei =>
     match ei.zero with
     | some z =>
      match re z,decide (z.length=ei.size/\0<ei.size/\n*ei.size<=16777216),aE e ei.size n parts.toList ((List.range (n*ei.size)).map λk=>.p (io (z.getD (k%ei.size) (.bool false)))) with
      | true,true,some l =>
       match mj l with
       |some ps=>some ⟨True, .v (.one (.ref id n)), .arr true ei.size el n λi j=>ps.getD (i*ei.size+j) .any⟩
       |none=>some ⟨True, .v (.one (.ref id n)), .arrh ei.size el n (jp l) λi j=>l.getD (i*ei.size+j) (.p .any)⟩
      |_,_,_=>none
     |none=>none
    |none=>none
   |_=>none
  |none=>none
 | .makeMap t r =>
  match E t,r with
  | some i,none =>
   match i.k with
   | .map kt _ =>
    match E kt with
    |some ki=>match Vs ki.k with|some kk=>some ⟨True, .v (.one (.ref id 0)), .mp kk 0 λ_=>none⟩|none=>none
    |none=>none
   |_=>none
  |_,_=>none
 | .makeSlice t l cp =>
  match E t,e l,e cp with
  | some i,some (.v (.one (.p (.raw (.int _ n))))),some (.v (.one (.p (.raw (.int _ m))))) =>
   match i.k with
   | .slice el =>
    match E el with
    | some ei =>
     match ei.zero with
     | some z =>
      match re z,decide (z.length=ei.size/\0<ei.size) with
      |true,true=>some ⟨0<=n/\n<=m/\m<=9223372036854775807/\(ei.bytes:Int)*m<=281474976710656, .v (.one (.ref id n.toNat)), .arr true ei.size el n.toNat λ_ j=>io (z.getD j (.bool false))⟩
      |_,_=>none
     |none=>none
    |none=>none
   |_=>none
  |_,_,_=>none
 |_=>none
section
variable {P:Program}{E:Xc}{w0:World}{nt:Nat}{c:Pc}{s:S}{a:Act}{w:World}
def cK{id:Nat}(hm:NM s id){x:Operand}{r:HR}(hx:ev s x=some r):¬r.men id:=by
 cases x with
 |tmp d=>exact hm.1 d r hx
 | const v =>
  simp only[ev,wD]at hx;split at hx
  .split at hx<;>try(cases hx;done)
   simp only[Bb]at hx;subst hx;rintro⟨h,hh,hmn⟩;obtain⟨u,_,rfl⟩:=Ad.1 hh;exact hmn
  .cases hx
  simp only[Bb]at hx;subst hx;exactλhf=>hf
 | global g =>
  simp only[ev]at hx;split at hx
  .simp only [Bb]at hx
   subst hx;exactλhf=>hf
  cases hx
 | func f =>
  simp only[ev,Bb]at hx;subst hx;exactλhf=>hf
def kQ(h:ah w0 nt c s a w)(id:Nat)(hm:NM s id)(hn:s.o id=none)(l:List HV)(C:Array Value)(t:TypeId)(hl:∀k,(∃x∈l,x.men k)->k≠id)(hr:b7 c s.o l C.toList) :
 ∃c',c'.old=c.old/\ah w0 nt c' (s.setO id (some (.box l))) a (w.alloc (.cells C t))/\ap c' (s.setO id (some (.box l))).o (.v (.one (.ptr id 0))) (.pointer (some ⟨w.heap.size,0,none⟩)):=by
 refine⟨_,(by rfl),h.fresh id hm hn (.box l) (w.alloc (.cells C t)) (.pointer (some ⟨w.heap.size,0,none⟩)) (yn w.heap.size) (Wf.alloc w _ none) (λb hb=>Hn (Eq.symm hb)) ⟨w.heap.size,C,t,by simp,by simp,Zb _,heap_alloc_new w _, ?_⟩,rfl,λob d hob=>by simp[S.setO]at hob;subst hob;simp[a8.dim],λl' _=>⟨w.heap.size,by simp,rfl⟩⟩
 exact b7.evo (c:=c) (o:=s.o) (c':={ old:=c.old,imm:=c.imm,tab:=c.tab,own:=λk=>if k=id then Value.pointer (some ⟨w.heap.size,0,none⟩)else c.own k,blk:=λk=>if k=id then yn w.heap.size else c.blk k,rows:=c.rows })
  (o':=(s.setO id (some (a8.box l))).o) (Dc.le.refl c.imm) (λk hk=>by
   have hne:=hl k hk
   exact Vc.of_same (by simp[S.setO,hne]) (by simp[hne])) hr
def ZQ {i j sz:Nat} (hj:j<sz):(i*sz+j)/sz=i/\(i*sz+j)%sz=j:=by
 constructor
 .rw[Nat.add_comm,Nat.add_mul_div_right _ _ Za,Nat.div_eq_of_lt hj,Oe]
 rw[Nat.add_comm,Nat.add_mul_mod_self_right,Gz hj]
def lP(h:ah w0 nt c s a w)(id:Nat)(hm:NM s id)(hn:s.o id=none)(sz:Nat)(el:TypeId)(n cap:Nat)(f:Nat->Nat->PV)(C:Array Value)(hsz:0<sz)(hcap:n<=cap)(hmax:cap<=maxLen)(hC:C.size=cap*sz)
 (hr:∀i j,i<n->j<sz->∃x,C.toList[i*sz+j]? = some x/\aq c.imm (f i j) x) :
 ∃c',c'.old=c.old/\ah w0 nt c' (s.setO id (some (.arr true sz el n f))) a (w.alloc (.cells C el))/\ap c' (s.setO id (some (.arr true sz el n f))).o (.v (.one (.ref id n))) (.slice (some ⟨w.heap.size,0,none⟩) n cap):=by
 refine⟨_,(by rfl),h.fresh id hm hn (.arr true sz el n f) (w.alloc (.cells C el)) (.slice (some ⟨w.heap.size,0,none⟩) n cap) (fq (.slice (some ⟨w.heap.size,0,none⟩) n cap)) (Wf.alloc w _ none) (λb hb=>by simp[fq,d5]at hb;omega) ⟨hsz,by omega, .inl ⟨by simp,C.toList.take (n*sz), ?_,λi j hi hj=>?_⟩⟩,rfl,λl=>by simp[S.setO],λob2 s2 e2 n2 ho2 hd2=>?_⟩
 .refine ⟨?_, .inr ⟨w.heap.size,cap,C,by simp,Zb _,heap_alloc_new w _,hcap,hmax,hC,rfl⟩⟩
  have:n*sz<=cap*sz:=Ve _ hcap;rw[Ae,Zh,hC,Gi this]
 .obtain ⟨x,hx,Be⟩:=hr i j hi hj
  refine⟨x, ?_,Be⟩
  have:i*sz+j<n*sz:=by
   have:(i+1)*sz<=n*sz:=Ve _ Za;rw[Mf]at this;omega
  rw[Ih,Ba this];exact hx
 simp only[S.setO,Ma,Bb]at ho2;subst ho2;simp only[a8.dim,Bb,Tc]at hd2;obtain⟨rfl,rfl,rfl⟩:=hd2;exact⟨Yb _,λ_=>by simp⟩
def bbf(h:ah w0 nt c s a w)(id:Nat)(hm:NM s id)(hn:s.o id=none)(sz:Nat)(el:TypeId)(n cap:Nat)(ms:List Nat)(f:Nat->Nat->HV)(C:Array Value)(hsz:0<sz)(hcap:n<=cap)(hmax:cap<=maxLen)(hC:C.size=cap*sz)
 (hms:∀i j k,i<n->j<sz->(f i j).men k->k∈ms) (hid:id∉ms) (hr:∀i j,i<n->j<sz->∃x,C.toList[i*sz+j]? = some x/\bc c s.o (f i j) x) :
 ∃c',c'.old=c.old/\ah w0 nt c' (s.setO id (some (.arrh sz el n ms f))) a (w.alloc (.cells C el))/\ap c' (s.setO id (some (.arrh sz el n ms f))).o (.v (.one (.ref id n))) (.slice (some ⟨w.heap.size,0,none⟩) n cap):=by
 refine⟨_,(by rfl),h.fresh id hm hn (.arrh sz el n ms f) (w.alloc (.cells C el)) (.slice (some ⟨w.heap.size,0,none⟩) n cap) (fq (.slice (some ⟨w.heap.size,0,none⟩) n cap)) (Wf.alloc w _ none) (λb hb=>by simp[fq,d5]at hb;omega) ⟨hsz,by omega,hms, .inl ⟨by simp,C.toList.take (n*sz), ?_,λi j hi hj=>?_⟩⟩,rfl,λl=>by simp[S.setO],λob2 s2 e2 n2 ho2 hd2=>?_⟩
 .refine ⟨?_, .inr ⟨w.heap.size,cap,C,by simp,Zb _,heap_alloc_new w _,hcap,hmax,hC,rfl⟩⟩
  have:n*sz<=cap*sz:=Ve _ hcap;rw[Ae,Zh,hC,Gi this]
 .obtain ⟨x,hx,Be⟩:=hr i j hi hj
  refine⟨x, ?_, ?_⟩
  .have:i*sz+j<n*sz:=by
    have:(i+1)*sz<=n*sz:=Ve _ Za;rw[Mf]at this;omega
   rw[Ih,Ba this];exact hx
  refine bc.evo (c:=c) (o:=s.o) (Dc.le.refl c.imm) (λk hk=>?_) Be;have hne:k≠id:=by rintro rfl;exact hid (hms i j k hi hj hk)
  exact Vc.of_same (by simp[S.setO,hne]) (by simp[hne])
 simp only[S.setO,Ma,Bb]at ho2;subst ho2;simp only[a8.dim,Bb,Tc]at hd2;obtain⟨rfl,rfl,rfl⟩:=hd2;exact⟨Yb _,λ_=>by simp⟩
def az8{e:Ev}{id:Nat}(he:∀x r,e x=some r->¬r.men id)(places:List (Nat×Nat)):∀(parts:List (Nat×Operand)) (cells l:List HV),iw e places cells parts=some l->(∀x∈cells,¬x.men id)->∀x∈l,¬x.men id:=by
 intro parts
 induction parts with
 |nil=>intro cells l h hc;simp[iw]at h;rw[<- h];exact hc
 | cons p r ih =>
  intro cells l h hc;obtain⟨i,x⟩:=p;simp only[iw]at h;split at h<;>try(cases h;done)
  rename_i off size cc hpl hx;split at h<;>try(cases h;done)
  refine ih _ _ h λy hy=>?_;simp only[bj,Ug,Af]at hy
  rcases hy with hy|hy|hy
  .exact hc y (List.mem_of_mem_take hy)
  .have:=he x _ hx
   intro hm;apply this
   cases cc with
   |one hh=>simp only[HC.cells,Bf]at hy;subst hy;exact hm
   |agg l=>exact⟨y,hy,hm⟩
  exact hc y (List.mem_of_mem_drop hy)
def Ui (h:ah w0 nt c s a w)(places:List (Nat×Nat))(place:Nat->Option (Nat×Nat))(hpl:∀i p,places[i]? = some p->place i=some p):∀(parts:List (Nat×Operand)) (cells:List HV) (us:List Value) (l:List HV),b7 c s.o cells us->iw (ev s) places cells parts=some l ->
 ∃vs:List Value,Instr.fill place us.toArray (parts.map λp=>(p.1,a.eval p.2))=some vs.toArray/\b7 c s.o l vs:=by
 intro parts
 induction parts with
 | nil =>
  intro cells us l hc hf;simp only[iw,Bb]at hf;subst hf;exact⟨us,by simp[Instr.fill],hc⟩
 | cons p r ih =>
  intro cells us l hc hf;obtain⟨i,x⟩:=p;have hf0:=hf;simp only[iw]at hf;split at hf<;>try(cases hf;done)
  rename_i off size cc hplc hx;split at hf<;>try(cases hf;done)
  rename_i h1 h2;have h1:=Ga h1;have h2:=Ga h2;have hu:gp c s.o cc (a.eval x):=ae h hx;obtain⟨hcl,hsz⟩:=n3 hu;have hset:b7 c s.o (bj cells off cc.cells) (us.take off++(a.eval x).cells.toList++us.drop (off+cc.cells.length)):=((hc.take off).append hcl).append (hc.drop _);obtain⟨vs,hv,hr⟩:=ih _ _ l hset hf;obtain⟨vs1,hv1,_⟩:=xm h places [(i,x)] cells us (bj cells off cc.cells) hc (by simp only[iw,hplc,hx];simp[h1,h2]);refine⟨vs, ?_,hr⟩;simp only[Wh,List.map_nil,Instr.fill,hplc]at hv1;simp only[Wh,Instr.fill,hpl i _ hplc];have hlen:=hc.length
  have hb:¬(decide ((a.eval x).cells.size≠size)||decide (off+(a.eval x).cells.size > us.toArray.size))=true:=by
   simp only[Kj,Ja,Pi,not_or];omega
  rw[Ca hb]at hv1 ⊢;have hfold:=WK off (a.eval x).cells.toList 0 us Uh;simp only[Fi,Zh]at hfold
  have hz:(a.eval x).cells.zipIdx.foldl (λcs (p:Value×Nat)=>cs.setIfInBounds (off+p.2) p.1) us.toArray=((a.eval x).cells.toList.zipIdx 0).foldl (λ(cs:Array Value) (p:Value×Nat)=>cs.setIfInBounds (off+p.2) p.1) us.toArray:=by
   rw[<- Array.foldl_toList];simp
  rw[hz,hfold];rw[hsz]at hv;exact hv
def b3t(hE:dl P E)(h:ah w0 nt c s a w){o:Oper}{id:Nat}{nw:Uy}(hq':ha E (ev s) id o.op=some nw)(hp:nw.pre)(hm:NM s id)(hn:s.o id=none) :
 ∃v w' c',(execOp a.eval o).run P w=.ok (.value v) w'/\c'.old=c.old/\ah w0 nt c' (s.setO id (some nw.ob)) a w'/\ap c' (s.setO id (some nw.ob)).o nw.val v:=by
 cases ho:o.op<;>rw[ho]at hq'<;>simp only[ha]at hq'<;>try(cases hq';done)
 case alloc t =>
  split at hq'<;>try(cases hq';done)
  rename_i i hi;split at hq'<;>try(cases hq';done)
  rename_i z hz;split at hq'
  .rename_i e8 hb8
   simp only[Bb]at hq';subst hq';have hz2:=avi hb8;subst hz2;obtain⟨ii,d,h1,h2,h3,h4,h5,h6,_⟩:=az (hE t i hi);rw[hz]at h6
   cases hiz:ii.zero with
   |none=>rw[hiz]at h6;cases h6
   | some zv =>
    rw[hiz]at h6;simp only[Vf,Bb]at h6;have hzc:zv.cells=#[.pointer none, .slice none 0 0]:=Array.ext' h6.symm
    have hr:=h.fresh id hm hn (.bld true t e8 []) (w.alloc (.cells zv.cells t)) (.pointer (some ⟨w.heap.size,0,none⟩)) (yn w.heap.size) (Wf.alloc w _ none) (λb hb=>Hn (Eq.symm hb))
     ⟨w.heap.size, .pointer none, .slice none 0 0,by simp,Zb _,by rw[hzc];exact heap_alloc_new w _, .inl rfl,Dv _ _ _ _,by simp[d5],(λk=>by simp[d5,yn]),λ_=>⟨rfl,rfl⟩⟩
    refine⟨.pointer (some ⟨w.heap.size,0,none⟩),_,_, ?_,(by rfl),hr,rfl,λl=>by simp[S.setO],λob2 s2 e2 n2 ho2 hd2=>?_⟩
    .simp[execOp,ho,Instr.alloc,zeroValue,typeInfo,h1,hiz,newVar,newRow]
    simp only[S.setO,Ma,Bb]at ho2;subst ho2;simp only[a8.dim,Bb,Tc]at hd2;obtain⟨rfl,rfl,rfl⟩:=hd2;exact⟨Yb _,λ_=>by simp⟩
  split at hq'<;>try(cases hq';done)
  rename_i hone;simp only[Bb]at hq';subst hq';obtain⟨ii,d,h1,h2,h3,h4,h5,h6,_⟩:=az (hE t i hi);rw[hz]at h6
  cases hiz:ii.zero with
  |none=>rw[hiz]at h6;cases h6
  | some zv =>
   rw[hiz]at h6;simp only[Vf,Bb]at h6
   obtain ⟨c',hold,hr,hv⟩:=kQ h id hm hn (z.map λc=>.p (io c)) zv.cells t (λk ⟨x,hx,hmn⟩=>by
    obtain⟨u,_,rfl⟩:=Ad.1 hx
    exact hmn.elim) (by rw[<- h6];exact vw c s.o z (jt hone))
   refine⟨_,_,c', ?_,hold,hr,hv⟩;simp[execOp,ho,Instr.alloc,zeroValue,typeInfo,h1,hiz,newVar,newRow]
 case box t x =>
  split at hq'<;>try(cases hq';done)
  rename_i cc hx;simp only[Bb]at hq';subst hq';have hu:=ae h hx;obtain⟨hcl,_⟩:=n3 (x:=cc) hu;have hnm:=cK hm hx
  obtain ⟨c',hold,hr,hv⟩:=kQ h id hm hn cc.cells (a.eval x).cells t (λk ⟨y,hy,hmn⟩ e=>by
   subst e;apply hnm
   cases cc with
   |one hh=>simp only[HC.cells,Bf]at hy;subst hy;exact hmn
   |agg l=>exact⟨y,hy,hmn⟩) hcl
  refine⟨_,_,c', ?_,hold,hr,hv⟩;simp[execOp,ho,Instr.box,newVar,newRow]
 case buildSlice t n parts =>
  split at hq'<;>try(cases hq';done)
  rename_i i hi;split at hq'<;>try(cases hq';done)
  rename_i el hel;split at hq'<;>try(cases hq';done)
  rename_i ei hei;split at hq'<;>try(cases hq';done)
  rename_i z hz;split at hq'<;>try(cases hq';done)
  rename_i l hone hdec hfl;obtain⟨hzl,hsz,hbig⟩:=Ga hdec;obtain⟨ii,d,h1,h2,h3,_⟩:=az (hE t i hi);obtain rfl:=ez (h3.symm.trans hel);obtain⟨ie,de,e1,e2,e3,e4,e5,e6,_⟩:=az (hE el ei hei);rw[hz]at e6
  cases hiz:ie.zero with
  |none=>rw[hiz]at e6;cases e6
  | some zv =>
   rw[hiz]at e6;simp only[Vf,Bb]at e6;have hzz:zv.cells=z.toArray:=by rw[e6]
   have hinit:b7 c s.o ((List.range (n*ei.size)).map λk=>HV.p (io (z.getD (k%ei.size) (.bool false)))) ((List.range (n*ei.size)).map λk=>z.getD (k%ei.size) (.bool false)):=by
    refine b7.of_get Ec λk x u hx hu=>?_;simp only[Pe]at hx hu
    cases hk:(List.range (n*ei.size))[k]? with
    |none=>rw[hk]at hx;cases hx
    | some kk =>
     rw[hk]at hx hu;simp only[Vf,Bb]at hx hu;subst hx hu;refine oz _ _ (jt hone _ ?_);have:kk%ei.size<z.length:=by rw[hzl];exact Gm _ hsz
     rw[Oc,Hc this];exact De this
   obtain ⟨vs,hv,hr⟩:=Ui h _ (λi=>some (i*ei.size,ei.size)) (λi p hp=>by
    simp only[Pe]at hp
    cases hk:(List.range n)[i]? with
    |none=>rw[hk]at hp;cases hp
    | some k =>
     rw[hk]at hp;have:=On.1 hk;obtain⟨hlt,hke⟩:=this;simp at hke;subst hke
     simpa using hp) parts.toList _ _ l hinit hfl
   have hlen:vs.length=n*ei.size:=by
    have h1:=hr.length
    have h2:l.length=n*ei.size:=by
     have key:∀(parts:List (Nat×Operand)) (cells l:List HV),iw (ev s) ((List.range n).map λi=>(i*ei.size,ei.size)) cells parts=some l->l.length=cells.length:=by
      intro parts
      induction parts with
      |nil=>intro cells l h;simp[iw]at h;rw[h]
      | cons p r ih =>
       intro cells l h;obtain⟨i,x⟩:=p;simp only[iw]at h;split at h<;>try(cases h;done)
       split at h<;>try(cases h;done)
       rename_i g1 g2;have g1:=Ga g1;have g2:=Ga g2;rw[ih _ _ h];simp only[bj,Uc,Ae,Ck];omega
     rw[key _ _ _ hfl];simp
    omega
   have hmaxn:n<=maxLen:=by
    have:n*1<=n*ei.size:=Nat.mul_le_mul_left _ hsz;simp only[maxLen];omega
   have hll:l.length=n*ei.size:=by rw[<- hr.length,hlen]
   have hs':(sizeOf el).run P w=.ok ei.size w:=f5 (hE el ei hei) w;have hzv:(zeroValue el).run P w=.ok zv w:=by simp[zeroValue,typeInfo,e1,hiz]
   have hparts:(Array.map (λ(x:Nat×Operand)=>match x with|(i,x)=>(i,a.eval x)) parts).toList=parts.toList.map λp=>(p.1,a.eval p.2):=by simp
   have hfin:∀A:Array Value,A=((List.range (n*ei.size)).map λk=>z.getD (k%ei.size) (.bool false)).toArray ->
    Instr.fill (λi=>some (i*ei.size,ei.size)) A (Array.map (λ(x:Nat×Operand)=>match x with|(i,x)=>(i,a.eval x)) parts).toList=some vs.toArray:=by
    intro A hA;rw[hA,hparts];exact hv
   have hexec:(execOp a.eval o).run P w=.ok (.value (.slice (some ⟨w.heap.size,0,none⟩) n n)) (w.alloc (.cells vs.toArray el)):=by
    unfold execOp;simp only[ho,Instr.buildSlice,Nf,run_underlying h2 w,Rf,hs',Sem.run_ite];rw[Ca Za];by_cases hne:n*ei.size=0
    .simp only [Ba hne,Mh,Rf]
     rw[hfin _ (by rw[hne];simp)];simp[newRow]
    simp only[Ca hne,hzv,Rf,Mh]
    rw [hfin _ (by
     apply Array.ext';simp only[Mo,Array.toList_range];apply Mn;intro k hk;have:k%ei.size<z.length:=by rw[hzl];exact Gm _ hsz
     simp only[hzz,Pi,hzl]
     simp[this])]
    simp[newRow]
   split at hq'
   .rename_i ps hps
    simp only[Bb]at hq';subst hq';have hP:=t6 hr hps
    obtain ⟨c',hold,hr',hv'⟩:=lP h id hm hn ei.size el n n (λi j=>ps.getD (i*ei.size+j) .any) vs.toArray hsz (Yb _) hmaxn (by simp[hlen]) (λi j hi hj=>by
     have hlt:i*ei.size+j<n*ei.size:=by
      have:(i+1)*ei.size<=n*ei.size:=Ve _ Za;rw[Mf]at this;omega
     have hplen:ps.length=n*ei.size:=by rw[<- hP.length,hlen]
     obtain⟨u,hu,hru⟩:=hP.get (i*ei.size+j) ps[i*ei.size+j] (Hc Za)
     exact⟨u,by simpa using hu,by simpa [List.getD,Hc (show i*ei.size+j<ps.length by omega)]using hru⟩)
    exact⟨_,_,c',hexec,hold,hr',hv'⟩
   simp only[Bb]at hq';subst hq'
   have hmem:∀i j,i<n->j<ei.size->∃hlt:i*ei.size+j<l.length,l.getD (i*ei.size+j) (.p .any)=l[i*ei.size+j]:=λi j hi hj=>by
    have hlt:i*ei.size+j<l.length:=by
     have:(i+1)*ei.size<=n*ei.size:=Ve _ Za;rw[Mf]at this;omega
    exact⟨hlt,by simp[List.getD,Hc hlt]⟩
   obtain ⟨c',hold,hr',hv'⟩:=bbf h id hm hn ei.size el n n (jp l) (λi j=>l.getD (i*ei.size+j) (.p .any)) vs.toArray hsz (Yb _) hmaxn (by simp[hlen]) (λi j k hi hj hk=>by
    obtain⟨hlt,he⟩:=hmem i j hi hj;rw[he]at hk
    exact ol ⟨_,De hlt,hk⟩) (λhk=>by
    obtain⟨x,hx,hmx⟩:=Pf hk;refine az8 (e:=ev s) (id:=id) (λx r hx=>cK hm hx) _ _ _ _ hfl (λy hy=>?_) x hx hmx;obtain⟨u,_,rfl⟩:=Ad.1 hy
    exactλhf=>hf) (λi j hi hj=>by
    obtain⟨hlt,he⟩:=hmem i j hi hj;rw[he];obtain⟨u,hu,hru⟩:=hr.get (i*ei.size+j) l[i*ei.size+j] (Hc hlt)
    exact⟨u,by simpa using hu,hru⟩)
   exact⟨_,_,c',hexec,hold,hr',hv'⟩
 case makeMap t r =>
  split at hq'<;>try(cases hq';done)
  rename_i i hi;split at hq'<;>try(cases hq';done)
  split at hq'<;>try(cases hq';done)
  split at hq'<;>try(cases hq';done)
  rename_i kk hkk;simp only[Bb]at hq';subst hq'
  have hr:=h.fresh id hm hn (.mp kk 0 λ_=>none) (w.alloc (.map #[] 0)) (.map (some w.heap.size)) (yn w.heap.size) (Wf.alloc w _ none) (λb hb=>Hn (Eq.symm hb))
   ⟨w.heap.size,#[],0,by simp,by simp,⟨Zb _,b3i hkk _⟩,heap_alloc_new w _,Go.MapKept.stamped_empty 0,by simp,by simp,(λx hx=>by simp at hx),(λkey y hy=>by cases hy)⟩
  refine⟨.map (some w.heap.size),_,_, ?_,(by rfl),hr,rfl,λl=>by simp[S.setO],λob2 s2 e2 n2 ho2 hd2=>?_⟩
  .simp[execOp,ho,Go.run_makeMap_plain]
  simp only[S.setO,Ma,Bb]at ho2;subst ho2;simp only[a8.dim,Bb,Tc]at hd2;obtain⟨rfl,rfl,rfl⟩:=hd2;exact⟨Yb _,λ_=>by simp⟩
 case makeSlice t l cp =>
  split at hq'<;>try(cases hq';done)
  rename_i i k n k2 m hi hl hc;split at hq'<;>try(cases hq';done)
  rename_i el hel;split at hq'<;>try(cases hq';done)
  rename_i ei hei;split at hq'<;>try(cases hq';done)
  rename_i z hz;split at hq'<;>try(cases hq';done)
  rename_i hone hdec;obtain⟨hzl,hsz⟩:=Ga hdec;simp only[Bb]at hq';subst hq';obtain⟨p1,p2,p3,p4⟩:=hp;obtain⟨u1,_⟩:=ae h hl;obtain⟨u2,_⟩:=ae h hc;obtain⟨ii,d,h1,h2,h3,_⟩:=az (hE t i hi);obtain rfl:=ez (h3.symm.trans hel);obtain⟨ie,de,e1,e2,e3,e4,e5,e6,_⟩:=az (hE el ei hei);rw[hz]at e6
  cases hiz:ie.zero with
  |none=>rw[hiz]at e6;cases e6
  | some zv =>
   rw[hiz]at e6;simp only[Vf,Bb]at e6;have hzz:zv.cells=z.toArray:=by rw[e6]
   have hrun:=run_make (P:=P) w t el ie zv h2 e1 hiz k k2 n m p1 p2 (by rw[<- e5];exact p4) p3
   obtain ⟨c',hold,hr',hv'⟩:=lP h id hm hn ei.size el n.toNat m.toNat (λ_ j=>io (z.getD j (.bool false))) (madeCells zv.cells (m.toNat*ie.size)) hsz Za (by simp only[maxLen];omega) (by rw[size_madeCells,e4]) (λi j hi hj=>by
    have hlt:i*ei.size+j<m.toNat*ei.size:=by
     have:(i+1)*ei.size<=m.toNat*ei.size:=Ve _ Za;rw[Mf]at this;omega
    have hjz:j<z.length:=by omega
    refine⟨z[j], ?_, ?_⟩
    .simp only [madeCells,hzz,<- e4,Mo,Array.toList_range,Pe,Hi hlt,Vf,Pi,hzl,(ZQ hj).2]
     simp[hjz]
    rw[Oc,Hc hjz]
    exact oz _ _ (jt hone _ (De hjz)))
   refine⟨_,_,c', ?_,hold,hr',hv'⟩;simp[execOp,ho,u1,u2,hrun]
end
end
section
open Go.RowKit
structure Bj where
 pre:Prop
 id:Nat
 ob:a8
def er(f:Nat->Nat->PV)(r j:Nat)(ps:List PV):Nat->Nat->PV:=λa b=>if a=r/\j<=b/\b<j+ps.length then ps.getD (b-j) .any else f a b
def Du(f:Nat->Nat->HV)(r j:Nat)(l:List HV):Nat->Nat->HV:=λa b=>if a=r/\j<=b/\b<j+l.length then l.getD (b-j) (.p .any)else f a b
def sb(g:Nat->Nat->Nat->PV)(i r j:Nat)(ps:List PV):Nat->Nat->Nat->PV:=λa=>if a=i then er (g a) r j ps else g a
def mf (E:Xc) (o:av) (e:Ev) (t:TypeId) (addr v:Operand):Option Bj :=
 match E t,e v,e addr with
 | some i,some (.v cc),some (.v (.one (.ptr id off))) =>
  match o id with
  |some (.box l)=>match decide (cc.cells.length=i.size) with|true=>some ⟨off+i.size<=l.length,id, .box (bj l off cc.cells)⟩|false=>none
  |_=>none
 | some i,some (.v cc),some (.v (.one (.eptr id n r j))) =>
  match o id,mj cc.cells with
  |some (.arr true s el n' f),some ps=>match decide (cc.cells.length=i.size) with|true=>some ⟨n'=n/\r<n/\j+i.size<=s,id, .arr true s el n' (er f r j ps)⟩|false=>none
  |some (.arrh s el n' ms f),_=>match decide (cc.cells.length=i.size) with|true=>some ⟨n'=n/\r<n/\j+i.size<=s,id, .arrh s el n' (jp cc.cells++ms) (Du f r j cc.cells)⟩|false=>none
  |_,_=>none
 | some i,some (.v cc),some (.v (.one (.rptr id ri k r j))) =>
  match o id,mj cc.cells with
  |some (.nest el et es n m g pd),some ps=>match decide (cc.cells.length=i.size) with|true=>some ⟨ri<n/\m ri=k/\r<k/\j+i.size<=es,id, .nest el et es n m (sb g ri r j ps) pd⟩|false=>none
  |_,_=>none
 |_,_,_=>none
def qq(f:MK->Option PV)(m:MK)(y:PV):MK->Option PV:=λk=>bif k.same m then some y else f k
def LA (o:av) (kk:KK) (m:MK) (y:PV):HV->Option Bj
 | .ref id _ =>
  match o id with
  |some (.mp kk' n f)=>some ⟨kk'.base=kk/\MK.ok kk m/\n<maxLen,id, .mp kk' (n+1) (qq f m y)⟩
  |_=>none
 |_=>none
def my(E:Xc)(o:av)(e:Ev)(t:TypeId)(x ix v:Operand):Option Bj :=
 match E t with
 | some i =>
  match i.k with
  | .map kt _ =>
   match E kt with
   | some ki =>
    match e x with
    | some (.v (.one h)) =>
     match Vs ki.k,e ix,e v with
     | some kk,some (.v (.one (.p (.raw kv)))),some (.v (.one (.p y))) =>
      match FC kv with
      |some m=>LA o kk m y h
      |none=>none
     |_,_,_=>none
    |_=>none
   |none=>none
  |_=>none
 |none=>none
def hs (E:Xc) (o:av) (e:Ev):Op->Option Bj
 | .store t addr v=>mf E o e t addr v
 | .mapUpdate t x ix v=>my E o e t x ix v
 | .insert t x ix v=>my E o e t x ix v
 |_=>none
def o4 (w:World) (g:Nat) (cs:Array Value):Wf w (w.setRow g cs) (some g) :=
 ⟨⟨rfl,rfl,rfl,by simp,λk _ hk=>setRow_other w g k cs (λe=>hk (by rw[e]))⟩,Yb _⟩
section
variable {P:Program}{E:Xc}{w0:World}{nt:Nat}{c:Pc}{s:S}{a:Act}{w:World}
theorem AK {α:Type} (l new:List α) (off:Nat) (h:off+new.length<=l.length):(l.take off++new++l.drop (off+new.length)).length=l.length:=by
 grind
theorem dt {α:Type} (l new:List α) (off k:Nat) (h:off+new.length<=l.length) :
 (l.take off++new++l.drop (off+new.length))[k]? = if off<=k/\k<off+new.length then new[k-off]? else l[k]?:=by
 rw[Ug,List.getElem?_append,Ae,Gi Za]
 grind
theorem pW (hE:dl P E) (h:ah w0 nt c s a w) {t:TypeId} {x ix v:Operand} {u:Bj} (hq':my E s.o (ev s) t x ix v=some u) (hp:u.pre) :
 ∃w' c',(Instr.mapUpdate t (a.eval x) (a.eval ix) (a.eval v)).run P w=.ok () w'/\c'.old=c.old/\ah w0 nt c' (s.setO u.id (some u.ob)) a w':=by
 unfold my at hq';split at hq'<;>try(cases hq';done)
 rename_i i hi;split at hq'<;>try(cases hq';done)
 rename_i kt et hmk;split at hq'<;>try(cases hq';done)
 rename_i ki hki;split at hq'<;>try(cases hq';done)
 rename_i hv hx;split at hq'<;>try(cases hq';done)
 rename_i kk kv y hkk hix hvv;split at hq'<;>try(cases hq';done)
 rename_i m hm;unfold LA at hq';split at hq'<;>try(cases hq';done)
 rename_i id k0;split at hq'<;>try(cases hq';done)
 rename_i kk' n f hob;simp only[Bb]at hq';subst hq';obtain⟨rfl,hok,hn⟩:=hp;obtain⟨ii,d,h1,h2,h3,_⟩:=az (hE t i hi)
 have ht:P.underlying t=some (.map kt et):=by
  rw[h2];have h4:=h3.symm.trans hmk;cases d<;>simp[j1]at h4
  grind
 obtain⟨K,hkey⟩:=bT hE hki hkk;obtain⟨b,es,clock,q1,q2,q3,q4,q5,q6,q7,q8,q9⟩:=h.objs id _ hob;obtain⟨_,_,g3⟩:=ae h hx;obtain⟨g4,g5⟩:=g3 _ _ _ _ hob rfl;have hu:a.eval x=.map (some b):=by rw[g5 Za,q1]
 obtain⟨hu2,_⟩:=ae h hix;have hu3:aq c.imm y (a.eval v):=ae h hvv;obtain⟨l,hl⟩:=hkey m hok;have hmv:=fU hm;rw[hmv]at hl
 obtain ⟨es',clock',hrun,hst,hsz,hall,hnew,hold⟩:=gV (val:=a.eval v) K ht q4 Za q5 (λx hx=>by
  obtain⟨key,y,r1,r2,_⟩:=q8 x hx;rw[r1]
  exact hkey key (MK.ok_base.2 (q9 key y r2).1)) hl
 rw[hu,hu2];have hblk:=Go.ChangeMaps.heap_setBlock_same q4 (.map es' clock')
 refine ⟨_,_,hrun,(by rfl),h.write id _ hob (.mp kk' (n+1) (qq f m y)) (Go.ChangeMaps.setBlock w b (.map es' clock')) (c.own id) (c.blk id) (some b) (by
  exact⟨⟨rfl,rfl,rfl,by simp[Go.ChangeMaps.setBlock],λi _ hi=>Go.ChangeMaps.heap_setBlock_other q4 _ (λe=>hi (by rw[e]))⟩,Yb _⟩) (λb' hb'=>by cases hb';rw[q2];rfl)
  (.inr (.inr ⟨_, .mp kk' (n+1) (qq f m y),0,0,0,0,hob,rfl,by simp[S.setO],rfl,Yb _,λ_=>by simp,λ_ _ _ _ _ _ _ hb=>by cases hb⟩)) (λb hb=>.inl hb)
  ⟨b,es',clock',by simpa using q1,by simpa using q2,q3,hblk,hst,by omega,by omega,λx' hx'=>?_,λkey y' hy'=>?_⟩⟩
 .rcases hall x' hx' with⟨r1,r2⟩|⟨r1,r2⟩
  .obtain ⟨key,y0,t1,t2,t3⟩:=q8 x' r1
   refine⟨key,y0,t1, ?_,t3⟩
   have hne:key.same m=false:=by
    rw[Ie];intro hs;rw[MK.same_iff.1 hs]at t1
    grind
   unfold qq
   grind
  refine⟨m,y,r1.trans hmv.symm, ?_,by rw[r2];exact hu3⟩;unfold qq;rw[MK.same_iff.2 rfl];rfl
 unfold qq at hy'
 cases hs:key.same m with
 | true =>
  rw[MK.same_iff.1 hs];obtain⟨x0,hx0,hk0⟩:=hnew;exact⟨MK.ok_base.1 hok,x0,hx0,hk0.trans hmv.symm⟩
 | false =>
  grind
theorem rW{w:World}{base el sz:Nat}{v:Value}{n g cap r j:Nat}{xs news:List Value}{cur:Array Value}(hxl:xs.length=n*sz)(hown:v=.slice (some ⟨g,0,none⟩) n cap)(hbase:base<=g)(hheap:w.heap[g]? = some (.cells cur el (0,0)))(hnc:n<=cap)(hcm:cap<=maxLen)(hcs:cur.size=cap*sz)(htake:cur.toList.take (n*sz)=xs)
 (hr:r<n) (hj:j+news.length<=sz):(w.setRow g (cur.toList.take (r*sz+j)++news++cur.toList.drop (r*sz+j+news.length)).toArray).ownsRow base el sz v n (xs.take (r*sz+j)++news++xs.drop (r*sz+j+news.length)) /\
 ∀(ps:List PV) (f:Nat->Nat->PV) (imm:Dc),fv imm ps news->(∀i j,i<n->j<sz->∃x,xs[i*sz+j]? = some x/\aq imm (f i j) x)->∀p q,p<n->q<sz->∃x,(xs.take (r*sz+j)++news++xs.drop (r*sz+j+news.length))[p*sz+q]? = some x/\aq imm (er f r j ps p q) x:=by
 have hlt:(r+1)*sz<=n*sz:=Ve _ Za;have hlt2:n*sz<=cap*sz:=Ve _ hnc;rw[Mf]at hlt;refine⟨⟨?_, .inr ⟨g,cap,_,hown,hbase,setRow_heap w g cur _ el _ hheap,hnc,hcm, ?_, ?_⟩⟩,λps f imm hP h4 p q hp hq=>?_⟩
 .rw[AK _ _ _ Za];exact hxl
 .grind
 .apply No
  intro k;have hcl':cur.toList.length=cap*sz:=by simpa using hcs
  rw[Ih,List.toList_toArray];have e1:=dt cur.toList news (r*sz+j) k (by rw[hcl'];omega);have e2:=dt xs news (r*sz+j) k (by rw[hxl];omega);rw[e1,e2];by_cases hk:k<n*sz
  .rw [Ba hk]
   grind
  rw[Ca hk,Ca Za]
  grind
 have e2:=dt xs news (r*sz+j) (p*sz+q) (by rw[hxl];omega);rw[e2];have hpl:=hP.length
 have hpq:(r*sz+j<=p*sz+q/\p*sz+q<r*sz+j+news.length)<->(p=r/\j<=q/\q<j+ps.length):=by
  rw[hpl];constructor
  .rintro ⟨g1,g2⟩
   have:p=r:=by
    rcases Cv p r with hlt|heq|hgt
    .have:(p+1)*sz<=r*sz:=Ve _ Za
     grind
    .exact heq
    have:(r+1)*sz<=p*sz:=Ve _ Za
    grind
   grind
  grind
 unfold er;by_cases hc:p=r/\j<=q/\q<j+ps.length
 .rw [Ba (hpq.2 hc),Ba hc]
  obtain⟨rfl,g1,g2⟩:=hc;obtain⟨u,hu',hru⟩:=hP.get (q-j) ps[q-j] (Hc Za);refine⟨u, ?_,by simpa [List.getD,Hc (show q-j<ps.length by omega)]using hru⟩;rw[show p*sz+q-(p*sz+j)=q-j by omega];exact hu'
 rw[Ca (λhh=>hc (hpq.1 hh)),Ca hc];simp_all
def b68(hE:dl P E)(h:ah w0 nt c s a w){o:Oper}{u:Bj}(hq':hs E s.o (ev s) o.op=some u)(hp:u.pre) :
 ∃w' c',(execOp a.eval o).run P w=.ok .skip w'/\c'.old=c.old/\ah w0 nt c' (s.setO u.id (some u.ob)) a w':=by
 cases ho:o.op<;>rw[ho]at hq'<;>simp only[hs]at hq'<;>try(cases hq';done)
 case mapUpdate t x ix v =>
  obtain⟨w',c',h1,h2,h3⟩:=pW hE h hq' hp;exact⟨w',c',by simp[execOp,ho,h1],h2,h3⟩
 case insert t x ix v =>
  obtain⟨w',c',h1,h2,h3⟩:=pW hE h hq' hp;exact⟨w',c',by simp[execOp,ho,h1],h2,h3⟩
 case store t addr v =>
  have hexec:∀w',(Instr.storeAt t (a.eval addr) (a.eval v)).run P w=.ok () w'->(execOp a.eval o).run P w=.ok .skip w':=by
   intro w' hw;unfold execOp;simp[ho,hw]
  unfold mf at hq';split at hq'<;>try(cases hq';done)
  .rename_i i cc id off hi hv had
   split at hq'<;>try(cases hq';done)
   rename_i l hl;split at hq'<;>try(cases hq';done)
   rename_i hdec;have hlen:=Ga hdec;simp only[Bb]at hq';subst hq';have hp':off+i.size<=l.length:=hp;obtain⟨hcl,hsz⟩:=n3 (x:=cc) (ae h hv);obtain⟨_,_,h3⟩:=ae h had;obtain⟨b,hb,hu⟩:=h3 l hl;obtain⟨b',C,e,h1,h1',h2,h4,h5⟩:=h.objs id _ hl;rw[hb]at h1;simp only[Value.pointer.injEq,Bb,Addr.mk.injEq,and_true]at h1;subst h1;have hCl:=h5.length;have hst:=run_storeCells_at P b off e (a.eval v).cells.toList 0 C w h4 (by simp at hCl ⊢;omega) (hcl.oneCell);simp only[Fi,Zh]at hst
   refine ⟨_,_,hexec _ ?_,(by rfl),h.write id _ hl (.box (bj l off cc.cells)) (w.setRow b (C.toList.take off++(a.eval v).cells.toList++C.toList.drop (off+(a.eval v).cells.size)).toArray) (c.own id) (c.blk id) (some b) (o4 _ _ _) (λb' hb'=>by cases hb';rw[h1'];rfl) (.inr (.inl ⟨l,bj l off cc.cells,hl,by simp[S.setO],by simp⟩)) (λb hb=>.inl hb)
    ⟨b,_,e,by simpa using hb,by simpa using h1',h2,setRow_heap w b C _ e _ h4, ?_⟩⟩
   .have hs':(sizeOf t).run P w=.ok i.size w:=f5 (hE t i hi) w
    have hne:¬((a.eval v).cells.size≠i.size):=by omega
    simp only[Instr.storeAt,hu,Instr.sureAddr,Nf,Mh,Rf,storeVar,hs',Sem.run_ite,Ca hne];exact hst
   have:=(((h5.take off).append hcl).append (h5.drop (off+cc.cells.length)));rw[hsz]at this
   have h6:b7 c s.o (bj l off cc.cells) (C.toList.take off++(a.eval v).cells.toList++C.toList.drop (off+(a.eval v).cells.size)):=by
    unfold bj;rw[hsz];exact this
   have h7:b7 c s.o (bj l off cc.cells) ((C.toList.take off++(a.eval v).cells.toList++C.toList.drop (off+(a.eval v).cells.size)).toArray).toList:=h6;refine b7.evo (c:=c) (o:=s.o) ?_ (λk _=>?_) h7
   .exact Dc.le.refl c.imm
   by_cases hk:k=id
   .subst hk
    exact .inr (.inl ⟨l,bj l off cc.cells,hl,by simp[S.setO],by simp⟩)
   exact Vc.of_same (by simp[S.setO,hk]) (by simp[hk])
  .rename_i i cc id n r j hi hv had
   split at hq'<;>try(cases hq';done)
   rotate_left
   .rename_i _ sz el n' ms f hob
    split at hq'<;>try(cases hq';done)
    rename_i hdec;have hlen:=Ga hdec;simp only[Bb]at hq';subst hq';obtain⟨rfl,hr,hj⟩:=hp;obtain⟨hcl,hsz⟩:=n3 (x:=cc) (ae h hv);obtain⟨_,_,h3⟩:=ae h had;obtain⟨b,off,cap,hb,hu⟩:=(h3 _ _ _ _ hob rfl).2 rfl hr;have hobj:=h.objs id _ hob;obtain⟨h0,h1,h1m,h5⟩:=hobj
    obtain ⟨h6,xs,h2,h4⟩:c.blk id=fq (c.own id)/\∃xs,w.ownsRow 0 el sz (c.own id) n' xs/\∀i j,i<n'->j<sz->∃x,xs[i*sz+j]? = some x/\bc c s.o (f i j) x:=by
     rcases h5 with h5|⟨h6,_⟩
     .exact h5
     omega
    obtain⟨hxl,hrow⟩:=h2
    rcases hrow with⟨hv0,_⟩|⟨g,cap',cur,hown,hbase,hheap,hnc,hcm,hcs,htake⟩
    .rw[hv0]at hb;cases hb
    rw[hown]at hb;simp only[Ka,Bb,Addr.mk.injEq,and_true,true_and]at hb;obtain⟨⟨rfl,rfl⟩,rfl⟩:=hb;rw[Oe]at hu;have hpl:cc.cells.length=i.size:=hlen;have hlt:(r+1)*sz<=n'*sz:=Ve _ Za;have hlt2:n'*sz<=cap'*sz:=Ve _ hnc;rw[Mf]at hlt;have hsize:(a.eval v).cells.size=i.size:=by omega
    have hst:=run_storeCells_at P g (r*sz+j) el (a.eval v).cells.toList 0 cur w hheap (by simp[hcs,hsize];omega) (hcl.oneCell);simp only[Fi,Zh]at hst;have hblk:c.blk id g:=by rw[h6,hown];rfl
    have hnl:(a.eval v).cells.toList.length=i.size:=by simp[hsize]
    obtain⟨hw1,_⟩:=rW (news:=(a.eval v).cells.toList) (r:=r) (j:=j) hxl hown hbase hheap hnc hcm hcs htake hr (by rw[hnl];exact hj);rw[Zh]at hw1
    have hev:Vc c s.o { old:=c.old,imm:=c.imm,tab:=c.tab,own:=λk=>if k=id then c.own id else c.own k,blk:=λk=>if k=id then c.blk id else c.blk k,rows:=c.rows } (s.setO id (some (.arrh sz el n' (jp cc.cells++ms) (Du f r j cc.cells)))).o id :=
     .inr (.inr ⟨_, .arrh sz el n' (jp cc.cells++ms) (Du f r j cc.cells),sz,el,n',n',hob,rfl,by simp[S.setO],rfl,Yb _,λ_=>by simp,λ_ _ _ _ _ _ _ hb=>by cases hb⟩)
    have hevo:∀k,Vc c s.o { old:=c.old,imm:=c.imm,tab:=c.tab,own:=λk=>if k=id then c.own id else c.own k,blk:=λk=>if k=id then c.blk id else c.blk k,rows:=c.rows } (s.setO id (some (.arrh sz el n' (jp cc.cells++ms) (Du f r j cc.cells)))).o k:=λk=>by
     by_cases hk:k=id
     .subst hk;exact hev
     exact Vc.of_same (by simp[S.setO,hk]) (by simp[hk])
    refine ⟨_,_,hexec _ ?_,(by rfl),h.write id _ hob (.arrh sz el n' (jp cc.cells++ms) (Du f r j cc.cells)) (w.setRow g (cur.toList.take (r*sz+j)++(a.eval v).cells.toList++cur.toList.drop (r*sz+j+(a.eval v).cells.size)).toArray) (c.own id) (c.blk id) (some g) (o4 _ _ _) (λb' hb'=>by cases hb';exact hblk) hev (λb hb=>.inl hb)
     ⟨h0,h1,λp q k hp hq hk=>?_, .inl ⟨by simpa using h6,xs.take (r*sz+j)++(a.eval v).cells.toList++xs.drop (r*sz+j+(a.eval v).cells.toList.length),by simpa using hw1,λp q hp hq=>?_⟩⟩⟩
    .have hs':(sizeOf t).run P w=.ok i.size w:=f5 (hE t i hi) w
     have hne:¬((a.eval v).cells.size≠i.size):=by omega
     simp only[Instr.storeAt,hu,Instr.sureAddr,Nf,Mh,Rf,storeVar,hs',Sem.run_ite,Ca hne];exact hst
    .unfold Du at hk
     split at hk
     .rename_i hc
      refine Ig _ (ol ⟨_, ?_,hk⟩);have:q-j<cc.cells.length:=by omega
      rw[Oc,Hc this];exact De this
     exact Bh _ (h1m p q k hp hq hk)
    have e2:=dt xs (a.eval v).cells.toList (r*sz+j) (p*sz+q) (by rw[hnl,hxl];omega);rw[e2]
    have hpq:(r*sz+j<=p*sz+q/\p*sz+q<r*sz+j+(a.eval v).cells.toList.length)<->(p=r/\j<=q/\q<j+cc.cells.length):=by
     rw[hnl,hpl];constructor
     .rintro ⟨g1,g2⟩
      have:p=r:=by
       rcases Cv p r with hlt|heq|hgt
       .have:(p+1)*sz<=r*sz:=Ve _ Za
        rw[Mf]at this;omega
       .exact heq
       have:(r+1)*sz<=p*sz:=Ve _ Za;rw[Mf]at this;omega
      subst this;omega
     rintro⟨rfl,g1,g2⟩;omega
    unfold Du;by_cases hc:p=r/\j<=q/\q<j+cc.cells.length
    .rw [Ba (hpq.2 hc),Ba hc]
     obtain⟨rfl,g1,g2⟩:=hc;obtain⟨u,hu',hru⟩:=hcl.get (q-j) cc.cells[q-j] (Hc Za);refine⟨u, ?_,bc.evo (c:=c) (o:=s.o) (Dc.le.refl c.imm) (λk _=>hevo k) (by simpa [List.getD,Hc (show q-j<cc.cells.length by omega)]using hru)⟩;rw[show p*sz+q-(p*sz+j)=q-j by omega];exact hu'
    rw[Ca (λhh=>hc (hpq.1 hh)),Ca hc];obtain⟨u,hu',hru⟩:=h4 p q hp hq;exact⟨u,hu',bc.evo (c:=c) (o:=s.o) (Dc.le.refl c.imm) (λk _=>hevo k) hru⟩
   rename_i sz el n' f ps hob hps;split at hq'<;>try(cases hq';done)
   rename_i hdec;have hlen:=Ga hdec;simp only[Bb]at hq';subst hq';obtain⟨rfl,hr,hj⟩:=hp;obtain⟨hcl,hsz⟩:=n3 (x:=cc) (ae h hv);have hP:=t6 hcl hps;obtain⟨_,_,h3⟩:=ae h had;obtain⟨b,off,cap,hb,hu⟩:=(h3 _ _ _ _ hob rfl).2 rfl hr;have hobj:=h.objs id _ hob;obtain⟨h0,h1,h5⟩:=hobj
   obtain ⟨h6,xs,h2,h4⟩:c.blk id=fq (c.own id)/\∃xs,w.ownsRow 0 el sz (c.own id) n' xs/\∀i j,i<n'->j<sz->∃x,xs[i*sz+j]? = some x/\aq c.imm (f i j) x:=by
    rcases h5 with h5|⟨h6|h6,_⟩
    .exact h5
    .cases h6
    omega
   have h2':=h2;obtain⟨hxl,hrow⟩:=h2
   rcases hrow with⟨hv0,_⟩|⟨g,cap',cur,hown,hbase,hheap,hnc,hcm,hcs,htake⟩
   .rw[hv0]at hb;cases hb
   rw[hown]at hb;simp only[Ka,Bb,Addr.mk.injEq,and_true,true_and]at hb;obtain⟨⟨rfl,rfl⟩,rfl⟩:=hb;rw[Oe]at hu;have hpl:ps.length=i.size:=by rw[<- hP.length,Zh,<- hsz,hlen]
   have hlt:(r+1)*sz<=n'*sz:=Ve _ Za;have hlt2:n'*sz<=cap'*sz:=Ve _ hnc;rw[Mf]at hlt;have hsize:(a.eval v).cells.size=i.size:=by omega
   have hst:=run_storeCells_at P g (r*sz+j) el (a.eval v).cells.toList 0 cur w hheap (by simp[hcs,hsize];omega) (hcl.oneCell);simp only[Fi,Zh]at hst;have hblk:c.blk id g:=by rw[h6,hown];rfl
   have hnl:(a.eval v).cells.toList.length=i.size:=by simp[hsize]
   refine ⟨_,_,hexec _ ?_,(by rfl),h.write id _ hob (.arr true sz el n' (er f r j ps)) (w.setRow g (cur.toList.take (r*sz+j)++(a.eval v).cells.toList++cur.toList.drop (r*sz+j+(a.eval v).cells.size)).toArray) (c.own id) (c.blk id) (some g) (o4 _ _ _) (λb' hb'=>by cases hb';exact hblk) (.inr (.inr ⟨_, .arr true sz el n' (er f r j ps),sz,el,n',n',hob,rfl,by simp[S.setO],rfl,Yb _,λ_=>by simp,λ_ _ _ _ _ _ _ hb=>by cases hb⟩)) (λb hb=>.inl hb)
    ⟨h0,h1, .inl ⟨by simpa using h6,xs.take (r*sz+j)++(a.eval v).cells.toList++xs.drop (r*sz+j+(a.eval v).cells.toList.length), ?_,λp q hp hq=>?_⟩⟩⟩
   .have hs':(sizeOf t).run P w=.ok i.size w:=f5 (hE t i hi) w
    have hne:¬((a.eval v).cells.size≠i.size):=by omega
    simp only[Instr.storeAt,hu,Instr.sureAddr,Nf,Mh,Rf,storeVar,hs',Sem.run_ite,Ca hne];exact hst
   .refine ⟨?_, .inr ⟨g,cap',_,by simpa using hown,hbase,setRow_heap w g cur _ el _ hheap,hnc,hcm, ?_, ?_⟩⟩
    .rw[AK _ _ _ (by rw[hnl];omega)];exact hxl
    .simp only [Pi,Uc,Ae,Ck,Zh]
     omega
    apply No;intro k;have hcl':cur.toList.length=cap'*sz:=by simpa using hcs
    rw[Ih,List.toList_toArray];have e1:=dt cur.toList (a.eval v).cells.toList (r*sz+j) k (by rw[hnl,hcl'];omega);have e2:=dt xs (a.eval v).cells.toList (r*sz+j) k (by rw[hnl,hxl];omega);rw[hnl]at e1 e2;rw[hsize,hnl,e1,e2];by_cases hk:k<n'*sz
    .rw [Ba hk]
     split
     .rfl
     rw[<- htake,Ih,Ba hk]
    rw[Ca hk,Ca Za];exact(Nz Za).symm
   have e2:=dt xs (a.eval v).cells.toList (r*sz+j) (p*sz+q) (by rw[hnl,hxl];omega);rw[e2]
   have hpq:(r*sz+j<=p*sz+q/\p*sz+q<r*sz+j+(a.eval v).cells.toList.length)<->(p=r/\j<=q/\q<j+ps.length):=by
    rw[hnl,hpl];constructor
    .rintro ⟨g1,g2⟩
     have:p=r:=by
      rcases Cv p r with hlt|heq|hgt
      .have:(p+1)*sz<=r*sz:=Ve _ Za
       rw[Mf]at this;omega
      .exact heq
      have:(r+1)*sz<=p*sz:=Ve _ Za;rw[Mf]at this;omega
     subst this;omega
    rintro⟨rfl,g1,g2⟩;omega
   unfold er;by_cases hc:p=r/\j<=q/\q<j+ps.length
   .rw [Ba (hpq.2 hc),Ba hc]
    obtain⟨rfl,g1,g2⟩:=hc;obtain⟨u,hu',hru⟩:=hP.get (q-j) ps[q-j] (Hc Za);refine⟨u, ?_,by simpa [List.getD,Hc (show q-j<ps.length by omega)]using hru⟩;rw[show p*sz+q-(p*sz+j)=q-j by omega];exact hu'
   rw[Ca (λhh=>hc (hpq.1 hh)),Ca hc];exact h4 p q hp hq
  rename_i i cc id ri k r j hi hv had;split at hq'<;>try(cases hq';done)
  rename_i el et es n m g0 pd ps hob hps;split at hq'<;>try(cases hq';done)
  rename_i hdec;have hlen:=Ga hdec;simp only[Bb]at hq';subst hq';obtain⟨hri,rfl,hr,hj⟩:=hp;obtain⟨hcl,hsz⟩:=n3 (x:=cc) (ae h hv);have hP:=t6 hcl hps;obtain⟨_,h3⟩:=ae h had;obtain⟨_,_,h4⟩:=h3 _ _ _ _ _ _ _ hob;obtain⟨b,off,cap,hb,hu⟩:=h4 rfl hr;have hnk:lh 0 c s.o w id el et es n m g0 pd:=h.objs id _ hob
  obtain ⟨ys,hrow,hys⟩:∃ys,w.ownsRow 0 et es (c.rows id ri) (m ri) ys/\∀r j,r<m ri->j<es->∃x,ys[r*es+j]? = some x/\aq c.imm (g0 ri r j) x:=by
   rcases hnk.row ri hri with⟨h0,_⟩|h1
   .omega
   exact h1
  have We:ay (c.rows id ri)=some b:=by
   rcases gh hrow with⟨h0,_⟩|⟨b',cap',rv,rb⟩
   .omega
   rw[rb];rw[rv]at hb;simp only[Ka,Bb,Addr.mk.injEq]at hb;rw[hb.1.1]
  obtain⟨hyl,hform⟩:=hrow
  rcases hform with⟨hv0,_⟩|⟨g,cap',cur,hown,hbase,hheap,hnc,hcm,hcs,htake⟩
  .rw[hv0]at hb;cases hb
  rw[hown]at hb;simp only[Ka,Bb,Addr.mk.injEq,and_true,true_and]at hb;obtain⟨⟨rfl,rfl⟩,rfl⟩:=hb;rw[Oe]at hu;have hsize:(a.eval v).cells.size=i.size:=by omega
  have hnl:(a.eval v).cells.toList.length=i.size:=by simp[hsize]
  have hlt:(r+1)*es<=m ri*es:=Ve _ Za;have hlt2:m ri*es<=cap'*es:=Ve _ hnc;rw[Mf]at hlt;have hst:=run_storeCells_at P g (r*es+j) et (a.eval v).cells.toList 0 cur w hheap (by simp[hcs,hsize];omega) (hcl.oneCell);simp only[Fi,Zh]at hst;have hblk:c.blk id g:=(hnk.blks g).2 (.inr ⟨ri,hri,We⟩);obtain⟨hw1,hw2⟩:=rW (news:=(a.eval v).cells.toList) (r:=r) (j:=j) hyl hown hbase hheap hnc hcm hcs htake hr (by rw[hnl];exact hj);rw[Zh]at hw1;have hother:∀b':Nat,b'≠g->(w.setRow g (cur.toList.take (r*es+j)++(a.eval v).cells.toList++cur.toList.drop (r*es+j+(a.eval v).cells.size)).toArray).heap[b']? = w.heap[b']?:=λb' hne=>setRow_other w g b' _ hne
  have hevo:∀k,Vc c s.o { old:=c.old,imm:=c.imm,tab:=c.tab,own:=λk=>if k=id then c.own id else c.own k,blk:=λk=>if k=id then c.blk id else c.blk k,rows:=c.rows } (s.setO id (some (.nest el et es n m (sb g0 ri r j ps) pd))).o k:=λk=>by
   by_cases hk:k=id
   .subst hk
    exact .inr (.inr ⟨_,_,1,el,n+ng pd,n+ng pd,hob,oF,(by show(if k=k then _ else _)=_;rw[Ba rfl]),oF,Yb _,λ_=>by simp,λe2 et2 es2 n2 m2 g2 pd2 hb2=>by
     cases hb2
     exact⟨_,_,_,_,_,_,rfl,Yb _,λi _=>⟨Yb _,λ_=>rfl⟩⟩⟩)
   exact Vc.of_same (by simp[S.setO,hk]) (by simp[hk])
  refine⟨_,_,hexec _ ?_,(by rfl),h.write id _ hob (.nest el et es n m (sb g0 ri r j ps) pd) (w.setRow g (cur.toList.take (r*es+j)++(a.eval v).cells.toList++cur.toList.drop (r*es+j+(a.eval v).cells.size)).toArray) (c.own id) (c.blk id) (some g) (o4 _ _ _) (λb' hb'=>by cases hb';exact hblk) (hevo id) (λb hb=>.inl hb) ?_⟩
  .have hs':(sizeOf t).run P w=.ok i.size w:=f5 (hE t i hi) w
   have hne:¬((a.eval v).cells.size≠i.size):=by omega
   simp only[Instr.storeAt,hu,Instr.sureAddr,Nf,Mh,Rf,storeVar,hs',Sem.run_ite,Ca hne];exact hst
  refine⟨hnk.pos,hnk.len,hnk.lens,by simpa using hnk.blks,by simpa using hnk.apart,λa hai=>?_, ?_⟩
  .by_cases har:a=ri
   .subst har
    refine .inr ⟨_,hw1,λp q hp hq=>?_⟩;rw[Zh]at hw2;obtain⟨x,hx,Be⟩:=hw2 ps (g0 a) c.imm hP hys p q hp hq;refine⟨x,hx, ?_⟩;show aq c.imm (sb g0 a r j ps a p q) x;unfold sb;rw[Ba rfl];exact Be
   rcases hnk.row a hai with r0|⟨zs,r1,r2⟩
   .exact .inl r0
   rcases gh r1 with r0|⟨b',cap2,rv,rb⟩
   .exact .inl r0
   refine .inr ⟨zs,o3 r1 λb2 hb2=>hother b2 λe2=>?_,λp q hp hq=>?_⟩
   .rw [rv]at hb2
    simp only[d5,Bb]at hb2;subst hb2;subst e2;exact har ((hnk.apart ri b' hri We).2 a hai rb)
   obtain⟨x,hx,Be⟩:=r2 p q hp hq;refine⟨x,hx, ?_⟩;show aq c.imm (sb g0 ri r j ps a p q) x;unfold sb;rw[Ca har];exact Be
  simp only[Ma]
  rcases hnk.top with r0|⟨xs,t1,t2,t3⟩
  .exact .inl r0
  rcases gh t1 with r0|⟨b',cap2,rv,rb⟩
  .exact .inl r0
  refine .inr ⟨xs,o3 t1 λb2 hb2=>hother b2 λe2=>?_,t2,λp hp=>?_⟩
  .rw [rv]at hb2
   simp only[d5,Bb]at hb2;subst hb2;subst e2;exact(hnk.apart ri b' hri We).1 rb
  obtain⟨x,hx,Be⟩:=t3 p hp;exact⟨x,hx,bc.evo (c:=c) (o:=s.o) (Dc.le.refl c.imm) (λk _=>hevo k) Be⟩
end
end
end Go.Hx
