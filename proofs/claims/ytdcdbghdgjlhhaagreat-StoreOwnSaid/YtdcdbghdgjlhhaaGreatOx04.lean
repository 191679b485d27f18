/- A part of the proof: Hx5. -/
import Derived.Laws.BytesArg
import Derived.Laws.Runes
import Derived.Test.YtdcdbghdgjlhhaaGreatOx03
set_option linter.all false
namespace Go.Hx
section
open Go.RowKit
def xp (k:TK) (x y:HV):Option Bool :=
 match k,x,y with
 | .int _, .p (.raw (.int k a)), .p (.raw (.int k' b))=>match decide (k = k') with | true=>some (decide (a = b)) | false=>none
 | .string, .p (.raw (.string a)), .p (.raw (.string b))=>some (decide (a = b))
 | .bool, .p (.raw (.bool a)), .p (.raw (.bool b))=>some (a == b)
 | _,_,_=>none
def a0d (E:Env) (xs ys:List HV):List (Nat × TypeId × Bool) → Option Bool
 | []=>some true
 | (off,ft,bl) :: r =>
  match bl,E ft,xs[off]?,ys[off]? with
  | false,some fi,some x,some y =>
   match xp fi.k x y with
   | some b=>match r with | []=>some b | _=>(a0d E xs ys r).map fun b'=>b && b'
   | none=>none
  | _,_,_,_=>none
def a8m (E:Env) (t:TypeId) (xs ys:List HV):Option Bool :=
 match E t with
 | some i =>
  match i.k,i.stood,i.eqg with
  | .struct fs,false,false=>a0d E xs ys fs
  | _,_,_=>none
 | none=>none
def yq (E:Env) (ex:Bool) (e:Ev) (op:BinOp) (t:TypeId) (x y:Operand):Option Out :=
 match e x,e y with
 | some (.v (.one (.p (.raw u)))),some (.v (.one (.p (.raw v)))) =>
  match act E ex op t u v with
  | some (pre,r)=>some ⟨pre,cf (.raw r)⟩
  | none=>none
 | some (.v (.agg l)),some (.v (.agg l')) =>
  match op,a8m E t l l' with
  | .eql,some b=>some ⟨True,cf (.raw (.bool b))⟩
  | .neq,some b=>some ⟨True,cf (.raw (.bool (!b)))⟩
  | _,_=>none
 | _,_=>none
def a32 (ex:Bool) (e:Ev) (op:UnOp) (x:Operand):Option Out :=
 match op,e x with
 | .neg,some (.v (.one (.p (.raw (.int k n)))))=>some ⟨(jf ex k (0 - n)).1,cf (.raw (jf ex k (0 - n)).2)⟩
 | .xor,some (.v (.one (.p (.raw (.int k n)))))=>some ⟨True,cf (.raw (.int k (a0u .xor k (if k.signed then -1 else k.max) n)))⟩
 | .not,some (.v (.one (.p (.raw (.bool b)))))=>some ⟨True,cf (.raw (.bool (!b)))⟩
 | _,_=>none
def a8s:PV → Int
 | .raw (.int _ k)=>k
 | _=>0
def aej (n:Nat) (f:Nat → Nat → PV):ByteArray:=strOfNums ((List.range n).map fun i=>a8s (f i 0))
def afe (E:Env):TK → Bool
 | .slice el=>match E el with | some ei=>(match ei.k with | .int .u8=>true | _=>false) | none=>false
 | _=>false
def uz (E:Env) (ex:Bool) (e:Ev) (src dst:TypeId) (x:Operand):Option Out :=
 match E src,E dst,e x with
 | some _,some di,some (.v (.one (.p (.raw (.int _ n))))) =>
  match di.k with
  | .int k=>some ⟨(jf ex k n).1,cf (.raw (jf ex k n).2)⟩
  | .string=>some ⟨True,cf (.raw (.string (Utf8.encode n)))⟩
  | _=>none
 | some si,some di,some (.v (.one (.p (.sl n sz _ f)))) =>
  match di.k,afe E si.k with
  | .string,true=>some ⟨sz = 1 ∧ ∀ i,i < n → ∃ k,f i 0 = .raw (.int .u8 k),cf (.raw (.string (aej n f)))⟩
  | _,_=>none
 | some _,some di,some (.v (.one (.p (.raw (.string b))))) =>
  match di.k with
  | .string=>some ⟨True,cf (.raw (.string b))⟩
  | _=>none
 | _,_,_=>none
def gi (e:Ev):Option Operand → Option (Option Int)
 | none=>some none
 | some y=>match e y with | some (.v (.one (.p (.raw (.int _ n)))))=>some (some n) | _=>none
def ik (n:Nat):Option Int → Nat
 | none=>n
 | some h=>h.toNat
def oi (n:Nat):Option Int → Nat
 | none=>n
 | some l=>n - l.toNat
def tc (f:Nat → Nat → PV):Option Int → Nat → Nat → PV
 | none=>f
 | some l=>fun i j=>f (l.toNat + i) j
def a62 (clip:Bool):Option Int → Option Int → Bool
 | some _,_=>true
 | none,none=>clip
 | none,some _=>false
def abd (n:Nat) (lo hi mx:Option Int):Prop :=
 (match lo with | none=>True | some l=>0 ≤ l ∧ l ≤ (ik n hi:Nat)) ∧ (match hi with | none=>True | some h=>0 ≤ h ∧ h ≤ n) ∧ (match mx with | none=>True | some m=>hi = some m)
def j5 (E:Env) (e:Ev) (t:TypeId) (x:Operand) (lo hi mx:Option Operand):Option Out :=
 match E t,e x,gi e lo,gi e hi,gi e mx with
 | some ti,some (.v (.one (.p (.raw (.string b))))),some l,some h,some none =>
  match ti.k with
  | .string=>some ⟨abd b.size l h none,cf (.raw (.string (b.extract (ik 0 l) (ik b.size h))))⟩
  | _=>none
 | some ti,some (.v (.one (.p (.sl n sz c f)))),some l,some h,some m =>
  match ti.k with
  | .slice el =>
   match E el with
   | some ei=>some ⟨ei.size = sz ∧ abd n l h m,cf (.sl (oi (ik n h) l) sz (a62 c m h) (tc f l))⟩
   | none=>none
  | _=>none
 | _,_,_,_,_=>none
def ah0 (n C:Nat) (l h m:Option Int):Prop :=
 (match l with | none=>True | some l=>0 ≤ l ∧ l ≤ (ik n h:Nat)) ∧ (match h with | none=>True | some h=>0 ≤ h ∧ h ≤ C) ∧ (match m with | none=>True | some mm=>(match h with | none=>False | some hv=>hv ≤ mm) ∧ mm ≤ C)
def pt (size:Nat) (l h m:Option Int) (sz id n' n i k:Nat):Out :=
 ⟨n' = n ∧ size = sz ∧ ah0 k (n - i) l h m,match m with | none=>.v (.one (.win id n (i + ik 0 l) (oi (ik k h) l))) | some _=>cf .any⟩
def t0 (o:aw) (size:Nat) (l h m:Option Int):HV → Option Out
 | .ref id n =>
  match o id with
  | some (.arr _ sz _ n' _)=>some (pt size l h m sz id n' n 0 n)
  | some (.arrh sz _ n' _ _)=>some (pt size l h m sz id n' n 0 n)
  | _=>none
 | .win id n i k =>
  match o id with
  | some (.arr _ sz _ n' _)=>some (pt size l h m sz id n' n i k)
  | some (.arrh sz _ n' _ _)=>some (pt size l h m sz id n' n i k)
  | _=>none
 | _=>none
def z9 (E:Env) (o:aw) (e:Ev) (t:TypeId) (x:Operand) (lo hi mx:Option Operand):Option Out :=
 match E t with
 | some ti =>
  match ti.k with
  | .slice el =>
   match E el with
   | some ei =>
    match gi e lo,gi e hi,gi e mx with
    | some l,some hh,some m =>
     match e x with
     | some (.v (.one h))=>t0 o ei.size l hh m h
     | _=>none
    | _,_,_=>none
   | none=>none
  | _=>none
 | none=>none
def da (b:ByteArray) (i:Nat):Int:=((b.data.toList.getD i 0).toNat:Int)
def qw (E:Env) (e:Ev) (t:TypeId) (x ix:Operand):Option Out :=
 match E t,e x,e ix with
 | some ti,some (.v (.one (.p (.raw (.string b))))),some (.v (.one (.p (.raw (.int _ i))))) =>
  match ti.k with
  | .string=>some ⟨0 ≤ i ∧ i < b.size,cf (.raw (.int .u8 (da b i.toNat)))⟩
  | _=>none
 | _,_,_=>none
def mt (e:Ev) (x:Operand) (i:Nat):Option Out :=
 match e x with
 | some (.tup l)=>match l[i]? with | some c=>some ⟨True, .v c⟩ | none=>none
 | _=>none
def nb (E:Env) (e:Ev) (b:Builtin) (args:List Operand) (tys:List TypeId):Option Out :=
 match b,args,tys with
 | .len,[x],t :: _ =>
  match E t with
  | some ti =>
   match ti.k,e x with
   | .string,some (.v (.one (.p (.raw (.string b)))))=>some ⟨True,cf (.raw (.int .i64 b.size))⟩
   | .slice _,some (.v (.one (.p (.sl n _ _ _))))=>some ⟨True,cf (.raw (.int .i64 n))⟩
   | _,_=>none
  | none=>none
 | .min,[x,y],_ =>
  match e x,e y with
  | some (.v (.one (.p (.raw (.int k a))))),some (.v (.one (.p (.raw (.int _ b)))))=>some ⟨True,cf (.raw (.int k (if b < a then b else a)))⟩
  | _,_=>none
 | .max,[x,y],_ =>
  match e x,e y with
  | some (.v (.one (.p (.raw (.int k a))))),some (.v (.one (.p (.raw (.int _ b)))))=>some ⟨True,cf (.raw (.int k (if a < b then b else a)))⟩
  | _,_=>none
 | _,_,_=>none
def xv (o:aw):HV → Option Out
 | .ref id n =>
  match o id with
  | some (.arr _ _ _ n' _)=>some ⟨n' = n,cf (.raw (.int .i64 n))⟩
  | some (.arrh _ _ n' _ _)=>some ⟨n' = n,cf (.raw (.int .i64 n))⟩
  | some (.nest _ _ _ n' _ _ none)=>some ⟨n' = n,cf (.raw (.int .i64 n))⟩
  | _=>none
 | .row id i k =>
  match o id with
  | some (.nest _ _ _ n m _ _)=>some ⟨i < n ∧ m i = k,cf (.raw (.int .i64 k))⟩
  | _=>none
 | .win id n _ m =>
  match o id with
  | some (.arr _ _ _ n' _)=>some ⟨n' = n,cf (.raw (.int .i64 m))⟩
  | some (.arrh _ _ n' _ _)=>some ⟨n' = n,cf (.raw (.int .i64 m))⟩
  | _=>none
 | _=>none
def o7 (E:Env) (o:aw) (e:Ev) (b:Builtin) (args:List Operand) (tys:List TypeId):Option Out :=
 match b,args,tys with
 | .len,[x],t :: _ =>
  match E t with
  | some ti =>
   match ti.k with
   | .slice _ =>
    match e x with
    | some (.v (.one h))=>xv o h
    | _=>none
   | _=>none
  | none=>none
 | _,_,_=>none
def ajo:HV → Option PV
 | .p x=>some x
 | _=>none
def ta (e:Ev):List Operand → Option (List PV)
 | []=>some []
 | x :: r =>
  match e x,ta e r with
  | some (.v (.one (.p y))),some l=>some (y :: l)
  | _,_=>none
def t6 (e:Ev):List Operand → Option (List HV)
 | []=>some []
 | x :: r =>
  match e x,t6 e r with
  | some (.v (.one y)),some l=>some (y :: l)
  | _,_=>none
def ig:List HV → Option (List PV)
 | []=>some []
 | .p x :: r=>match ig r with | some l=>some (x :: l) | none=>none
 | _ :: _=>none
def v5 (e:Ev) (fn:Fn) (first caps:List Operand):Option Out :=
 match fn,first with
 | .func f,[] =>
  match ta e caps with
  | some l=>some ⟨True,cf (.fn f l.length fun i=>l.getD i .any)⟩
  | none=>match t6 e caps with | some l=>some ⟨True, .v (.one (.clo f l.length fun i=>l.getD i (.p .any)))⟩ | none=>none
 | .func f,[x] =>
  match caps,e x with
  | [],some (.v (.agg hs))=>match ig hs with | some l=>some ⟨True,cf (.bnd f l.length fun i=>l.getD i .any)⟩ | none=>none
  | _,_=>none
 | _,_=>none
def mh (o:aw) (e:Ev) (x:Operand):Option Out :=
 match e x with
 | some (.v (.one (.p (.fn g k c))))=>some ⟨True,cf (.fn g k c)⟩
 | some (.v (.one (.clo g k c)))=>some ⟨True, .v (.one (.clo g k c))⟩
 | some (.v (.one h))=>match tgt o h with | some (p,_,_)=>some ⟨p, .v (.one h)⟩ | none=>none
 | _=>none
def adw (b:Bool):Option HR → Option HR → Option Out
 | some (.v (.one (.p (.raw (.bool x))))),some (.v (.one (.p (.raw (.bool y)))))=>some ⟨True,cf (.raw (.bool (bif b then x else y)))⟩
 | some x,none=>some ⟨b = true,x⟩
 | some x,some (.tup [])=>some ⟨b = true,x⟩
 | none,some y=>some ⟨b = false,y⟩
 | some (.tup []),some y=>some ⟨b = false,y⟩
 | some x,some y=>match b with | true=>some ⟨True,x⟩ | false=>some ⟨True,y⟩
 | none,none=>none
def v3 (e:Ev) (c x y:Operand):Option Out :=
 match e c with
 | some (.v (.one (.p (.raw (.bool b)))))=>adw b (e x) (e y)
 | _=>none
def a6h (op:BinOp) (n:Nat):Option Out :=
 match op with
 | .eql=>some ⟨0 < n,cf (.raw (.bool false))⟩
 | .neq=>some ⟨0 < n,cf (.raw (.bool true))⟩
 | _=>none
def up (op:BinOp) (ad:Option Addr):Option Out :=
 match op with
 | .eql=>some ⟨True,cf (.raw (.bool ad.isNone))⟩
 | .neq=>some ⟨True,cf (.raw (.bool (!ad.isNone)))⟩
 | _=>none
def oe (E:Env) (e:Ev) (op:BinOp) (t:TypeId) (x y:Operand):Option Out :=
 match y with
 | .const (.slice none 0 0) =>
  match E t with
  | some i =>
   match i.k with
   | .slice _ =>
    match e x with
    | some (.v (.one (.p (.sl n _ _ _))))=>a6h op n
    | some (.v (.one (.p (.raw (.slice ad _ _)))))=>up op ad
    | _=>none
   | _=>none
  | none=>none
 | _=>none
def a1e (op:BinOp) (b:Bool):Option Out :=
 match op with
 | .eql=>some ⟨True,cf (.raw (.bool b))⟩
 | .neq=>some ⟨True,cf (.raw (.bool (!b)))⟩
 | _=>none
def uk (o:aw) (op:BinOp):HV → Option Out
 | .ptr id _=>match o id with | some (.box _)=>a1e op false | _=>none
 | .p (.raw (.pointer p))=>a1e op p.isNone
 | _=>none
def iu (E:Env) (o:aw) (e:Ev) (op:BinOp) (t:TypeId) (x y:Operand):Option Out :=
 match y with
 | .const (.pointer none) =>
  match E t with
  | some i =>
   match i.k with
   | .pointer _ =>
    match e x with
    | some (.v (.one h))=>uk o op h
    | _=>none
   | _=>none
  | none=>none
 | _=>none
def sa (E:Env):List (Nat × TypeId × Bool) → Option (List (Nat × Nat))
 | []=>some []
 | (off,ft,_) :: r =>
  match E ft,sa E r with
  | some fi,some l=>some ((off,fi.size) :: l)
  | _,_=>none
def HC.cells:HC → List HV
 | .one h=>[h]
 | .agg l=>l
def bp (l:List HV) (off:Nat) (new:List HV):List HV:=l.take off ++ new ++ l.drop (off + new.length)
def fv (e:Ev) (places:List (Nat × Nat)) (cells:List HV):List (Nat × Operand) → Option (List HV)
 | []=>some cells
 | (i,x) :: r =>
  match places[i]?,e x with
  | some (off,size),some (.v c) =>
   match decide (c.cells.length = size),decide (off + size ≤ cells.length) with
   | true,true=>fv e places (bp cells off c.cells) r
   | _,_=>none
  | _,_=>none
def qv (E:Env) (e:Ev) (t:TypeId) (parts:List (Nat × Operand)):Option Out :=
 match E t with
 | some i =>
  match i.k,i.zero with
  | .struct fs,some z =>
   match sa E fs,kz z with
   | some places,true =>
    match fv e places (z.map fun c=>.p (js c)) parts with
    | some l=>some ⟨True, .v (.agg l)⟩
    | none=>none
   | _,_=>none
  | .array n el,some z =>
   match E el,kz z with
   | some ie,true =>
    match fv e ((List.range n).map fun k=>(k * ie.size,ie.size)) (z.map fun c=>.p (js c)) parts with
    | some l=>some ⟨True, .v (.agg l)⟩
    | none=>none
   | _,_=>none
  | _,_=>none
 | none=>none
def a11:TK → Option KK
 | .int q=>some (.int q)
 | .string=>some .str
 | _=>none
theorem ac7 {k:TK} {kk:KK} (h:a11 k = some kk) (b:Nat):kk.has b:=by cases k <;> simp [a11] at h <;> subst h <;> trivial
def a8z:Value → Option MK
 | .int q n=>some (.i q n)
 | .string b=>some (.s b)
 | _=>none
theorem a4m {v:Value} {m:MK} (h:a8z v = some m):m.val = v:=by
 cases v <;> simp [a8z] at h <;> subst h <;> rfl
def z3 (f:MK → Option PV) (m:MK) (z:Value):PV:=match f m with | some y=>y | none=>js z
def xg (f:MK → Option PV) (m:MK):Bool:=match f m with | some _=>true | none=>false
def ul (has:MK → Bool) (f:MK → PV) (m:MK) (z:Value):PV:=match has m with | true=>f m | false=>js z
def a16 (o:aw) (kk:KK) (m:MK) (z:Value) (cm:Bool):HV → Option Out
 | .p (.mp kk' _ has f) =>
  match cm with
  | true=>some ⟨kk' = kk ∧ MK.ok kk m, .tup [.one (.p (ul has f m z)), .one (.p (.raw (.bool (has m))))]⟩
  | false=>some ⟨kk' = kk ∧ MK.ok kk m, .v (.one (.p (ul has f m z)))⟩
 | .ref id _ =>
  match o id with
  | some (.mp kk' _ f) =>
   match cm with
   | true=>some ⟨kk' = kk ∧ MK.ok kk m, .tup [.one (.p (z3 f m z)), .one (.p (.raw (.bool (xg f m))))]⟩
   | false=>some ⟨kk' = kk ∧ MK.ok kk m, .v (.one (.p (z3 f m z)))⟩
  | _=>none
 | _=>none
def a4c (E:Env) (kt et:TypeId):Option (KK × Value) :=
 match E kt,E et with
 | some ki,some ei =>
  match a11 ki.k,ei.zero,ei.zone with
  | some kk,some [z],true=>some (kk,z)
  | _,_,_=>none
 | _,_=>none
def io (E:Env) (o:aw) (e:Ev) (t:TypeId) (x ix:Operand) (cm:Bool):Option Out :=
 match E t with
 | some i =>
  match i.k with
  | .map kt et =>
   match a4c E kt et with
   | some (kk,z) =>
    match e ix with
    | some (.v (.one (.p (.raw kv)))) =>
     match a8z kv with
     | some m =>
      match e x with
      | some (.v (.one h))=>a16 o kk m z cm h
      | _=>none
     | none=>none
    | _=>none
   | none=>none
  | _=>none
 | none=>none
def hq (E:Env) (ex:Bool) (o:aw) (e:Ev):Op → Option Out
 | .move x=>(e x).map fun r=>⟨True,r⟩
 | .assign x=>(e x).map fun r=>⟨True,r⟩
 | .pick c x y=>v3 e c x y
 | .nilCheck x=>mh o e x
 | .load t x=>jn E o e t x
 | .fieldAddr t x k=>f3 E o e t x k
 | .field t x k=>qx E e t x k
 | .indexAddr t x i=>fh E o e t x i
 | .index t x i=>qw E e t x i
 | .lookup t x i cm=>io E o e t x i cm
 | .binOp op t x y _=>match oe E e op t x y with | some r=>some r | none=>match iu E o e op t x y with | some r=>some r | none=>yq E ex e op t x y
 | .unOp op _ x=>a32 ex e op x
 | .convert s d x=>uz E ex e s d x
 | .extract x i=>mt e x i
 | .slice t x lo hi mx=>match j5 E e t x lo hi mx with | some r=>some r | none=>z9 E o e t x lo hi mx
 | .makeFunc fn first caps=>v5 e fn first.toList caps.toList
 | .build t parts=>qv E e t parts.toList
 | .call c =>
  match c.callee with
  | .builtin b=>match nb E e b c.args.toList c.argTypes.toList with | some r=>some r | none=>o7 E o e b c.args.toList c.argTypes.toList
  | _=>none
 | _=>none
section
variable {P:Program} {E:Env} {w0:World} {nt:Nat} {c:Ctx} {s:S} {a:Act} {w:World}
theorem dp {c:Ctx} {o:aw} {v:Value} (h:v.oneCell' = true):ax c o (cf (.raw v)) v:=⟨rfl,h⟩
theorem a5w (hE:cr P E) {t:TypeId} {fi:TI} (hi:E t = some fi) {x y:HV} {b:Bool} (hl:xp fi.k x y = some b) {o:aw} {u v:Value} (hu:bq c o x u) (hv:bq c o y v) (d:Nat) (w:World) :
 (Op.equalIn (d + 1) t u v).run P w = .ok b w:=by
 obtain ⟨ii,dd,h1,h2,h3,_⟩:=bd (hE t fi hi)
 unfold xp at hl
 split at hl <;> try (cases hl;done)
 · rename_i hk
   split at hl <;> try (cases hl;done)
   rename_i hkk
   have hkk:=of_decide_eq_true hkk
   subst hkk
   simp only [Option.some.injEq] at hl
   subst hl
   obtain ⟨rfl,_⟩:=hu
   obtain ⟨rfl,_⟩:=hv
   have:∃ k',dd = .int k':=by cases dd <;> simp_all [fy]
   obtain ⟨k',rfl⟩:=this
   rw [run_equalIn_int w d t _ k' _ _ h2]
   congr 1
 · rename_i hk
   simp only [Option.some.injEq] at hl
   subst hl
   obtain ⟨rfl,_⟩:=hu
   obtain ⟨rfl,_⟩:=hv
   have:dd = .string:=by cases dd <;> simp_all [fy]
   subst this
   rw [run_equalIn_string w d t _ _ h2,rl]
 rename_i hk
 simp only [Option.some.injEq] at hl
 subst hl
 obtain ⟨rfl,_⟩:=hu
 obtain ⟨rfl,_⟩:=hv
 have:dd = .bool:=by cases dd <;> simp_all [fy]
 subst this
 exact run_equalIn_bool w d t _ _ h2
theorem a79 {k:TK} {x y:HV} {b:Bool} (h:xp k x y = some b):k.isAgg = false:=by
 cases k <;> simp_all [xp,TK.isAgg]
theorem a1d (hE:cr P E) {o:aw} {xs ys:List HV} {us vs:List Value} (hx:bh c o xs us) (hy:bh c o ys vs) (d:Nat) (w:World) :
 ∀ (fs : List Field) (b : Bool), a0d E xs ys (fs.map fun f => (f.offset, f.type, f.name == "_")) = some b → (Op.eqFields (d + 1) us.toArray vs.toArray fs).run P w = .ok b w
 | [],b,h=>by simp [a0d] at h;subst h;simp [Op.eqFields]
 | f :: fs,b,h=>by
  simp only [List.map_cons,a0d] at h
  split at h <;> try (cases h;done)
  rename_i fi x y hbl hfi hxo hyo
  have hname : f.name ≠ "_" := by simpa using hbl
  split at h <;> try (cases h;done)
  rename_i bb hleaf
  obtain ⟨u,hu,hru⟩:=hx.get _ _ hxo
  obtain ⟨v,hv,hrv⟩:=hy.get _ _ hyo
  have hag:=a79 hleaf
  obtain ⟨mu,pu⟩:=u5 (P:=P) (hE _ _ hfi) us f.offset w
  obtain ⟨mv,pv⟩:=u5 (P:=P) (hE _ _ hfi) vs f.offset w
  rw [hag,hu] at pu
  rw [hag,hv] at pv
  have he:=a5w hE hfi hleaf hru hrv d w
  have key : ∀ bb', (match fs.map (fun f => (f.offset, f.type, f.name == "_")) with | [] => some bb | _ => (a0d E xs ys (fs.map fun f => (f.offset, f.type, f.name == "_"))).map fun b' => bb && b') = some bb' →
   (Op.eqFields (d + 1) us.toArray vs.toArray (f :: fs)).run P w = .ok bb' w:=by
   intro bb' hb
   simp only [Op.eqFields,ne_eq,hname,not_false_eq_true,if_true,Sem.run_bind,pu,pv,Bool.false_eq_true,if_false,Result.andThen_ok,he,Sem.run_ite,Sem.run_pure]
   split at hb
   · rename_i hnil
     simp only [List.map_eq_nil_iff] at hnil
     subst hnil
     simp only [Option.some.injEq] at hb
     subst hb
     cases bb <;> simp [Op.eqFields]
   cases hr : a0d E xs ys (fs.map fun f => (f.offset, f.type, f.name == "_")) with
   | none=>rw [hr] at hb;cases hb
   | some b' =>
    rw [hr] at hb
    simp only [Option.map_some,Option.some.injEq] at hb
    subst hb
    have ih:=a1d hE hx hy d w fs b' hr
    grind
  exact key b h
theorem a70 (hE:cr P E) {ex:Bool} (h:ak w0 nt c s a w) {op:BinOp} {t:TypeId} {x y:Operand} {out:Out} (hq:yq E ex (ev s) op t x y = some out) (hp:out.pre) :
 ∃ v,(do eqGuard op t x y (a.eval x) (a.eval y);binOp op t (a.eval x) (a.eval y):Sem Value).run P w = .ok v w ∧ ax c s.o out.val v:=by
 unfold yq at hq
 split at hq <;> try (cases hq;done)
 · rename_i u v hx hy
   split at hq <;> try (cases hq;done)
   rename_i pre r hb
   simp only [Option.some.injEq] at hq
   subst hq
   obtain ⟨e1,_⟩:=ai h hx
   obtain ⟨e2,_⟩:=ai h hy
   rw [e1,e2]
   obtain ⟨h1,h2⟩:=a8t (x:=x) (y:=y) hE hb hp w
   exact ⟨r,h1,dp h2⟩
 rename_i l l' hx hy
 obtain ⟨us,e1,r1⟩:=ai h hx
 obtain ⟨vs,e2,r2⟩:=ai h hy
 have core:∀ b,a8m E t l l' = some b → (eqGuard op t x y (.agg us.toArray) (.agg vs.toArray)).run P w = .ok () w ∧ (Op.equalIn 10000 t (.agg us.toArray) (.agg vs.toArray)).run P w = .ok b w:=by
  intro b hb
  unfold a8m at hb
  split at hb <;> try (cases hb;done)
  rename_i i hi
  split at hb <;> try (cases hb;done)
  rename_i fs hk hst heg
  obtain ⟨ii,d,h1,h2,h3,h4,h5,h6,h7,h8⟩:=bd (hE t i hi)
  obtain ⟨fa,rfl,hfa⟩:=ot (h3.symm.trans hk)
  rw [hst] at h7
  rw [heg] at h8
  refine ⟨run_eqGuard_agg w op t x y _ _ h8.symm, ?_⟩
  have hfo:P.fieldsOf t = fa:=by simp [Program.fieldsOf,h2]
  rw [run_equalIn_struct w 9999 t _ _ (by rw [hfo];exact h2) h7.symm,hfo]
  rw [hfa] at hb
  exact a1d hE r1 r2 9998 w fa.toList b hb
 rw [e1,e2]
 split at hq <;> try (cases hq;done)
 · rename_i b hb
   simp only [Option.some.injEq] at hq
   subst hq
   obtain ⟨g1,g2⟩:=core b hb
   refine ⟨.bool b, ?_,dp rfl⟩
   rw [Sem.run_bind,g1,Result.andThen_ok,run_eql_struct,g2,Result.andThen_ok]
 rename_i b hb
 simp only [Option.some.injEq] at hq
 subst hq
 obtain ⟨g1,g2⟩:=core b hb
 refine ⟨.bool (!b), ?_,dp rfl⟩
 rw [Sem.run_bind,g1,Result.andThen_ok,run_neq_struct,g2,Result.andThen_ok]
theorem oq {ex:Bool} {k:IntKind} {n:Int} (hp:(jf ex k n).1):(jf ex k n).2 = .int k (k.wrap n):=by
 cases ex
 · rfl
 simp only [jf] at hp ⊢;rw [a0i hp]
theorem a95 {ex:Bool} (h:ak w0 nt c s a w) {op:UnOp} {x:Operand} {out:Out} (hq:a32 ex (ev s) op x = some out) (hp:out.pre) :
 ∃ v,(Op.unary op (a.eval x)).run P w = .ok v w ∧ ax c s.o out.val v:=by
 unfold a32 at hq
 split at hq <;> try (cases hq;done)
 · rename_i k n hx
   simp only [Option.some.injEq] at hq
   subst hq
   obtain ⟨e1,_⟩:=ai h hx
   rw [e1]
   refine ⟨_, ?_,dp (by rw [oq hp];rfl)⟩
   rw [oq hp]
   simp [Op.unary,Op.intArith]
 · rename_i k n hx
   simp only [Option.some.injEq] at hq
   subst hq
   obtain ⟨e1,_⟩:=ai h hx
   rw [e1]
   exact ⟨_,by simp [Op.unary,Op.intBits,a0u],dp rfl⟩
 rename_i b hx
 simp only [Option.some.injEq] at hq
 subst hq
 obtain ⟨e1,_⟩:=ai h hx
 rw [e1]
 exact ⟨_,by simp [Op.unary],dp rfl⟩
theorem a4u (hE:cr P E) {ex:Bool} (h:ak w0 nt c s a w) {src dst:TypeId} {x:Operand} {out:Out} (hq:uz E ex (ev s) src dst x = some out) (hp:out.pre) :
 ∃ v,(convert src dst (a.eval x)).run P w = .ok v w ∧ ax c s.o out.val v:=by
 unfold uz at hq
 split at hq <;> try (cases hq;done)
 · rename_i si di k n hs hd hx
   obtain ⟨e1,_⟩:=ai h hx
   rw [e1]
   obtain ⟨ii,d,h1,h2,h3,_⟩:=bd (hE dst di hd)
   obtain ⟨ii',d',h1',h2',h3',_⟩:=bd (hE src si hs)
   split at hq <;> try (cases hq;done)
   · rename_i k' hk
     simp only [Option.some.injEq] at hq
     subst hq
     have:d = .int k':=by cases d <;> simp_all [fy]
     subst this
     refine ⟨_, ?_,dp (by rw [oq hp];rfl)⟩
     rw [oq hp]
     simp [convert,run_underlying h2,run_underlying h2',Conv.intToInt]
   rename_i hk
   simp only [Option.some.injEq] at hq
   subst hq
   have:d = .string:=by cases d <;> simp_all [fy]
   subst this
   exact ⟨_,run_convert_int_string w src dst k n (by rw [h2'];rfl) h2,dp rfl⟩
 · rename_i si di n sz cl f hs hd hx
   split at hq <;> try (cases hq;done)
   rename_i hk hu
   simp only [Option.some.injEq] at hq
   subst hq
   obtain ⟨rfl,hp⟩:=hp
   obtain ⟨ii,d,h1,h2,h3,_⟩:=bd (hE dst di hd)
   obtain ⟨ii',d',h1',h2',h3',_⟩:=bd (hE src si hs)
   have:d = .string:=by cases d <;> simp_all [fy]
   subst this
   unfold afe at hu
   split at hu <;> try (cases hu;done)
   rename_i el hel
   split at hu <;> try (cases hu;done)
   rename_i ei hei
   split at hu <;> try (cases hu;done)
   rename_i hek
   obtain ⟨ii2,d2,h12,h22,h32,_⟩:=bd (hE el ei hei)
   have:d' = .slice el:=by cases d' <;> simp_all [fy]
   subst this
   have:d2 = .int .u8:=by cases d2 <;> simp_all [fy]
   subst this
   obtain ⟨ad,cap,e1,_,_,_,e5⟩:=ai h hx
   rw [e1]
   by_cases hn:n = 0
   · subst hn
     cases ad with
     | none=>exact ⟨_,run_convert_bytes_nil w src el h2' h22 0 cap dst h2,dp rfl⟩
     | some ad =>
      refine ⟨_, ?_,dp rfl⟩
      rw [run_convert_bytes_string w src dst el _ 0 cap h2' h22 h2]
      have hl:(loadCells ad 0).run P w = .ok #[] w:=run_loadCells_list (P:=P) w ad [] (fun j v hj=>by simp at hj)
      have:=run_bytesToString (P:=P) w ad 0 cap [] (by simpa using hl)
      rw [this]
      rfl
   obtain ⟨b,off,rfl,hc⟩:=e5 (by omega)
   refine ⟨_,run_convert_bytes_arg w src el h2' h22 b off n cap ((List.range n).map fun i=>a8s (f i 0)) (by simp) (fun i hi=>?_) dst h2,dp rfl⟩
   obtain ⟨x,hx,hr⟩:=hc i 0 hi (by omega)
   obtain ⟨k,hk⟩:=hp i hi
   rw [hk] at hr
   have hx':=om h hx
   rw [Nat.mul_one,Nat.add_zero] at hx'
   rw [hx',hr.1]
   simp [List.getD,List.getElem?_map,List.getElem?_range hi,hk,a8s]
 rename_i si di b hs hd hx
 split at hq <;> try (cases hq;done)
 rename_i hk
 simp only [Option.some.injEq] at hq
 subst hq
 obtain ⟨e1,_⟩:=ai h hx
 rw [e1]
 obtain ⟨ii,d,h1,h2,h3,_⟩:=bd (hE dst di hd)
 obtain ⟨ii',d',h1',h2',h3',_⟩:=bd (hE src si hs)
 have:d = .string:=by cases d <;> simp_all [fy]
 subst this
 exact ⟨_,by simp [convert,run_underlying h2,run_underlying h2'],dp rfl⟩
theorem gh (h:ak w0 nt c s a w) {x:Option Operand} {r:Option Int} (hx:gi (ev s) x = some r) :
 (r = none ∧ x.map a.eval = none) ∨ ∃ k n,r = some n ∧ x.map a.eval = some (.int k n):=by
 cases x with
 | none=>simp [gi] at hx;exact .inl ⟨hx.symm,rfl⟩
 | some y =>
  simp only [gi] at hx
  split at hx <;> try (cases hx;done)
  rename_i k n hy
  simp only [Option.some.injEq] at hx
  obtain ⟨e1,_⟩:=ai h hy
  exact .inr ⟨k,n,hx.symm,by simp [e1]⟩
theorem bz (w:World) (k:IntKind) (n:Int) (y:Nat) (cd:BoundsCode) (h:0 ≤ n ∧ n ≤ y):(Instr.sliceBound (.int k n) y cd).run P w = .ok n.toNat w:=by
 simp [Instr.sliceBound,asIntOf,h]
theorem x6 (hE:cr P E) (h:ak w0 nt c s a w) {t:TypeId} {x:Operand} {lo hi mx:Option Operand} {out:Out} (hq:j5 E (ev s) t x lo hi mx = some out) (hp:out.pre) :
 ∃ v,(Instr.sliceAt t (a.eval x) (lo.map a.eval) (hi.map a.eval) (mx.map a.eval)).run P w = .ok v w ∧ ax c s.o out.val v:=by
 unfold j5 at hq
 split at hq <;> try (cases hq;done)
 · rename_i ti b l hh hti hx hl hhi hm
   split at hq <;> try (cases hq;done)
   rename_i hk
   simp only [Option.some.injEq] at hq
   subst hq
   obtain ⟨p1,p2,_⟩:=hp
   obtain ⟨e1,_⟩:=ai h hx
   obtain ⟨ii,d,h1,h2,h3,_⟩:=bd (hE t ti hti)
   have:d = .string:=by cases d <;> simp_all [fy]
   subst this
   have hm':mx.map a.eval = none:=by
    rcases gh h hm with ⟨_,e⟩ | ⟨k,n,e,_⟩
    · exact e
    cases e
   rw [e1,hm']
   refine ⟨.string (b.extract (ik 0 l) (ik b.size hh)), ?_,dp rfl⟩
   rcases gh h hl with ⟨rfl,el⟩ | ⟨kl,nl,rfl,el⟩ <;> rcases gh h hhi with ⟨rfl,eh⟩ | ⟨kh,nh,rfl,eh⟩ <;> rw [el,eh] <;>
    simp only [ik] at p1 p2 ⊢
   · simp [Instr.sliceAt,run_underlying h2,Instr.slice,Instr.sliceBounds]
   · simp [Instr.sliceAt,run_underlying h2,Instr.slice,Instr.sliceBounds,bz w kh nh b.size _ p2]
   · simp [Instr.sliceAt,run_underlying h2,Instr.slice,Instr.sliceBounds,bz w kl nl b.size _ p1]
   have p1':0 ≤ nl ∧ nl ≤ (nh.toNat:Nat):=p1
   simp [Instr.sliceAt,run_underlying h2,Instr.slice,Instr.sliceBounds,bz w kh nh b.size _ p2,bz w kl nl nh.toNat _ p1']
 rename_i ti n sz cl f l hh m hti hx hl hhi hm
 split at hq <;> try (cases hq;done)
 rename_i el hk
 split at hq <;> try (cases hq;done)
 rename_i ei hei
 simp only [Option.some.injEq] at hq
 subst hq
 obtain ⟨hs,p1,p2,p3⟩:=hp
 obtain ⟨ad,cap,e1,hcap,hmax,hclip,hc⟩:=ai h hx
 obtain ⟨ii,d,h1,h2,h3,_⟩:=bd (hE t ti hti)
 obtain rfl:=du (h3.symm.trans hk)
 have hsz:=dw (hE el ei hei) w
 rw [e1]
 have fin:∀ (L H M:Nat),L ≤ H → H ≤ n → H ≤ M → M ≤ cap → oi (ik n hh) l = H - L → (∀ i j,tc f l i j = f (L + i) j) → (a62 cl m hh = true → M = H) →
  ax c s.o (cf (.sl (oi (ik n hh) l) sz (a62 cl m hh) (tc f l))) (.slice (if M = L then ad else ad.map (·.add (L * ei.size))) (H - L) (M - L)):=by
  intro L H M h1 h2 h3 h4 hn hf hcl
  refine ⟨_,M - L,by rw [hn],by omega,by omega,fun h=>by have:=hcl h;omega,fun hpos=>?_⟩
  rw [hn] at hpos
  rw [if_neg (by omega)]
  obtain ⟨b,off,rfl,hcell⟩:=hc (by omega)
  refine ⟨b,off + L * ei.size,by simp [add_lit],fun i j hi hj=>?_⟩
  obtain ⟨u,hu,hr⟩:=hcell (L + i) j (by omega) hj
  refine ⟨u, ?_,by rw [hf];exact hr⟩
  rw [hs,Nat.add_assoc off,← Nat.add_assoc (L * sz),← Nat.add_mul]
  exact hu
 have hM:∀ (k:IntKind) (mm:Int),m = some mm → ∃ hv,hh = some hv ∧ mm = hv:=fun k mm e=>by
  subst e
  exact ⟨mm,p3,rfl⟩
 rcases gh h hl with ⟨rfl,eel⟩ | ⟨kl,nl,rfl,eel⟩ <;> rcases gh h hhi with ⟨rfl,eh⟩ | ⟨kh,nh,rfl,eh⟩ <;>
  rcases gh h hm with ⟨rfl,em⟩ | ⟨km,nm,rfl,em⟩ <;> rw [eel,eh,em] <;> simp only [ik] at p1 p2 p3
 · refine ⟨_, ?_,fin 0 n cap (Nat.zero_le _) (Nat.le_refl _) hcap (Nat.le_refl _) rfl (fun i j=>by simp [tc]) (fun h=>hclip h)⟩
   simp [Instr.sliceAt,run_underlying h2,Instr.slice,Instr.sliceBounds,hsz]
 · cases p3
 · refine ⟨_, ?_,fin 0 nh.toNat cap (Nat.zero_le _) (by omega) (by omega) (Nat.le_refl _) rfl (fun i j=>by simp [tc]) (fun h=>by cases h)⟩
   have q2:0 ≤ nh ∧ nh ≤ (cap:Nat):=by omega
   simp [Instr.sliceAt,run_underlying h2,Instr.slice,Instr.sliceBounds,hsz,bz w kh nh cap _ q2]
 · simp only [Option.some.injEq] at p3
   subst p3
   refine ⟨_, ?_,fin 0 nh.toNat nh.toNat (Nat.zero_le _) (by omega) (by omega) (by omega) rfl (fun i j=>by simp [tc]) (fun _=>rfl)⟩
   have q2:0 ≤ nh ∧ nh ≤ (cap:Nat):=by omega
   have q3:0 ≤ nh ∧ nh ≤ (nh.toNat:Nat):=by omega
   simp [Instr.sliceAt,run_underlying h2,Instr.slice,Instr.sliceBounds,hsz,bz w km nh cap _ q2,bz w kh nh nh.toNat _ q3]
 · refine ⟨_, ?_,fin nl.toNat n cap (by omega) (Nat.le_refl _) hcap (Nat.le_refl _) rfl (fun i j=>rfl) (fun h=>hclip h)⟩
   have q1:0 ≤ nl ∧ nl ≤ (n:Nat):=p1
   simp [Instr.sliceAt,run_underlying h2,Instr.slice,Instr.sliceBounds,hsz,bz w kl nl n _ q1]
 · cases p3
 · refine ⟨_, ?_,fin nl.toNat nh.toNat cap (by omega) (by omega) (by omega) (Nat.le_refl _) rfl (fun i j=>rfl) (fun h=>by cases h)⟩
   have q2:0 ≤ nh ∧ nh ≤ (cap:Nat):=by omega
   have q1:0 ≤ nl ∧ nl ≤ (nh.toNat:Nat):=by omega
   simp [Instr.sliceAt,run_underlying h2,Instr.slice,Instr.sliceBounds,hsz,bz w kh nh cap _ q2,bz w kl nl nh.toNat _ q1]
 simp only [Option.some.injEq] at p3
 subst p3
 refine ⟨_, ?_,fin nl.toNat nh.toNat nh.toNat (by omega) (by omega) (by omega) (by omega) rfl (fun i j=>rfl) (fun _=>rfl)⟩
 have q2:0 ≤ nh ∧ nh ≤ (cap:Nat):=by omega
 have q3:0 ≤ nh ∧ nh ≤ (nh.toNat:Nat):=by omega
 have q1:0 ≤ nl ∧ nl ≤ (nh.toNat:Nat):=by omega
 simp [Instr.sliceAt,run_underlying h2,Instr.slice,Instr.sliceBounds,hsz,bz w km nh cap _ q2,bz w kh nh nh.toNat _ q3,bz w kl nl nh.toNat _ q1]
theorem a5n (a:Addr) (x y:Nat):(a.add x).add y = a.add (x + y):=by
 unfold Addr.add
 grind
theorem a45 (a:Addr):a.add 0 = a:=by unfold Addr.add;simp
theorem a3y (h:ak w0 nt c s a w) {t el:TypeId} {sz:Nat} (h2:P.underlying t = some (.slice el)) (hsz:(sizeOf el).run P w = .ok sz w) {lo hi mx:Option Operand} {l hh m:Option Int}
 (hl:gi (ev s) lo = some l) (hhi:gi (ev s) hi = some hh) (hm:gi (ev s) mx = some m) {id n i k cap:Nat} {ad ad':Option Addr} {ob:af} {e:TypeId}
 (ho:s.o id = some ob) (hd:ob.dim = some (sz,e,n)) (hown:c.own id = .slice ad n cap) (h5:i + k ≤ n) (h6:n ≤ cap) (h7:cap ≤ maxLen) (h8:i < cap → ad' = ad.map (·.add (i * sz)))
 (hp:ah0 k (n - i) l hh m) :
 ∃ v,(Instr.sliceAt t (.slice ad' k (cap - i)) (lo.map a.eval) (hi.map a.eval) (mx.map a.eval)).run P w = .ok v w ∧ ax c s.o (pt sz l hh m sz id n n i k).val v:=by
 have hbox:∀ l,s.o id ≠ some (.box l):=fun l hb=>by
  rw [ho] at hb
  simp only [Option.some.injEq] at hb
  subst hb
  cases hd
 have fin:∀ (L H:Nat),L ≤ H → H ≤ n - i → ik 0 l = L → oi (ik k hh) l = H - L → m = none →
  ax c s.o (pt sz l hh m sz id n n i k).val (.slice (if cap - i = L then ad' else ad'.map (·.add (L * sz))) (H - L) (cap - i - L)):=by
  intro L H q1 q2 q3 q4 q5
  subst q5
  simp only [pt,q3,q4]
  refine ⟨rfl,hbox,fun ob2 s2 e2 n2 ho2 hd2=>?_⟩
  rw [ho] at ho2
  simp only [Option.some.injEq] at ho2
  subst ho2
  rw [hd] at hd2
  simp only [Option.some.injEq,Prod.mk.injEq] at hd2
  obtain ⟨rfl,rfl,rfl⟩:=hd2
  refine ⟨Nat.le_refl _,fun _=>⟨ad,_,cap,hown,by rw [Nat.sub_sub],by omega,h6,h7,fun hlt=>?_⟩⟩
  rw [if_neg (by omega),h8 (by omega),Option.map_map]
  congr 1
  funext a
  simp [a5n,Nat.add_mul]
 have any:∀ (ad:Option Addr) (n cap:Nat) (mm:Int),m = some mm → ax c s.o (pt sz l hh m sz id n n i k).val (.slice ad n cap):=by
  intro ad n cap mm q
  subst q
  exact rfl
 obtain ⟨p1,p2,p3⟩:=hp
 rcases gh h hl with ⟨rfl,eel⟩ | ⟨kl,nl,rfl,eel⟩ <;> rcases gh h hhi with ⟨rfl,eh⟩ | ⟨kh,nh,rfl,eh⟩ <;>
  rcases gh h hm with ⟨rfl,em⟩ | ⟨km,nm,rfl,em⟩ <;> rw [eel,eh,em] <;> simp only [ik] at p1 p2 p3
 · refine ⟨_, ?_,fin 0 k (Nat.zero_le _) (by omega) rfl rfl rfl⟩
   simp [Instr.sliceAt,run_underlying h2,Instr.slice,Instr.sliceBounds,hsz]
 · exact p3.1.elim
 · refine ⟨_, ?_,fin 0 nh.toNat (Nat.zero_le _) (by omega) rfl rfl rfl⟩
   have q2:0 ≤ nh ∧ nh ≤ (cap - i:Nat):=by omega
   simp [Instr.sliceAt,run_underlying h2,Instr.slice,Instr.sliceBounds,hsz,bz w kh nh (cap - i) _ q2]
 · refine ⟨_, ?_,any (if nm.toNat = 0 then ad' else ad'.map (·.add (0 * sz))) (nh.toNat - 0) (nm.toNat - 0) _ rfl⟩
   have q2:0 ≤ nm ∧ nm ≤ (cap - i:Nat):=by omega
   have q3:0 ≤ nh ∧ nh ≤ (nm.toNat:Nat):=by omega
   simp [Instr.sliceAt,run_underlying h2,Instr.slice,Instr.sliceBounds,hsz,bz w km nm (cap - i) _ q2,bz w kh nh nm.toNat _ q3]
 · refine ⟨_, ?_,fin nl.toNat k (by omega) (by omega) rfl rfl rfl⟩
   have q1:0 ≤ nl ∧ nl ≤ (k:Nat):=p1
   simp [Instr.sliceAt,run_underlying h2,Instr.slice,Instr.sliceBounds,hsz,bz w kl nl k _ q1]
 · exact p3.1.elim
 · refine ⟨_, ?_,fin nl.toNat nh.toNat (by omega) (by omega) rfl rfl rfl⟩
   have q2:0 ≤ nh ∧ nh ≤ (cap - i:Nat):=by omega
   have q1:0 ≤ nl ∧ nl ≤ (nh.toNat:Nat):=by omega
   simp [Instr.sliceAt,run_underlying h2,Instr.slice,Instr.sliceBounds,hsz,bz w kh nh (cap - i) _ q2,bz w kl nl nh.toNat _ q1]
 refine ⟨_, ?_,any (if nm.toNat = nl.toNat then ad' else ad'.map (·.add (nl.toNat * sz))) (nh.toNat - nl.toNat) (nm.toNat - nl.toNat) _ rfl⟩
 have q2:0 ≤ nm ∧ nm ≤ (cap - i:Nat):=by omega
 have q3:0 ≤ nh ∧ nh ≤ (nm.toNat:Nat):=by omega
 have q1:0 ≤ nl ∧ nl ≤ (nh.toNat:Nat):=by omega
 simp [Instr.sliceAt,run_underlying h2,Instr.slice,Instr.sliceBounds,hsz,bz w km nm (cap - i) _ q2,bz w kh nh nm.toNat _ q3,bz w kl nl nh.toNat _ q1]
theorem a6w (hE:cr P E) (h:ak w0 nt c s a w) {t:TypeId} {x:Operand} {lo hi mx:Option Operand} {out:Out} (hq:z9 E s.o (ev s) t x lo hi mx = some out) (hp:out.pre) :
 ∃ v,(Instr.sliceAt t (a.eval x) (lo.map a.eval) (hi.map a.eval) (mx.map a.eval)).run P w = .ok v w ∧ ax c s.o out.val v:=by
 unfold z9 at hq
 split at hq <;> try (cases hq;done)
 rename_i ti hti
 split at hq <;> try (cases hq;done)
 rename_i el hk
 split at hq <;> try (cases hq;done)
 rename_i ei hei
 split at hq <;> try (cases hq;done)
 rename_i l hh m hl hhi hm
 split at hq <;> try (cases hq;done)
 rename_i hv hx
 obtain ⟨ii,d,h1,h2,h3,_⟩:=bd (hE t ti hti)
 obtain rfl:=du (h3.symm.trans hk)
 have hsz:=dw (hE el ei hei) w
 have hev:=ai h hx
 have ofRef:∀ (id n sz n':Nat) (ob:af) (e:TypeId),s.o id = some ob → ob.dim = some (sz,e,n') → (∃ ad cap,c.own id = .slice ad n' cap ∧ n' ≤ cap ∧ cap ≤ maxLen) → bq c s.o (.ref id n) (a.eval x) → (pt ei.size l hh m sz id n' n 0 n).pre →
  ∃ v,(Instr.sliceAt t (a.eval x) (lo.map a.eval) (hi.map a.eval) (mx.map a.eval)).run P w = .ok v w ∧ ax c s.o (pt ei.size l hh m sz id n' n 0 n).val v:=by
  rintro id n sz n' ob e ho hd ⟨ad,cap,hv,hc1,hc2⟩ hr ⟨rfl,hs,hw⟩
  subst hs
  have hu:=((hr.2.2 _ _ _ _ ho hd).2 rfl).trans hv
  rw [hu]
  exact a3y (i:=0) (k:=n') (ad':=ad) h h2 hsz hl hhi hm ho hd hv (by omega) hc1 hc2 (fun _=>by cases ad <;> simp [a45]) hw
 have ofWin:∀ (id n sz n' i k:Nat) (ob:af) (e:TypeId),s.o id = some ob → ob.dim = some (sz,e,n') → bq c s.o (.win id n i k) (a.eval x) → (pt ei.size l hh m sz id n' n i k).pre →
  ∃ v,(Instr.sliceAt t (a.eval x) (lo.map a.eval) (hi.map a.eval) (mx.map a.eval)).run P w = .ok v w ∧ ax c s.o (pt ei.size l hh m sz id n' n i k).val v:=by
  rintro id n sz n' i k ob e ho hd hr ⟨rfl,hs,hw⟩
  subst hs
  obtain ⟨ad,ad',cap,q1,q2,q3,q4,q5,q6⟩:=(hr.2.2 _ _ _ _ ho hd).2 rfl
  rw [q2]
  exact a3y h h2 hsz hl hhi hm ho hd q1 q3 q4 q5 q6 hw
 unfold t0 at hq
 split at hq <;> try (cases hq;done)
 · split at hq <;> try (cases hq;done)
   · rename_i ho
     simp only [Option.some.injEq] at hq
     subst hq
     exact ofRef _ _ _ _ _ _ ho rfl (a2g (h.objs _ _ ho)) hev hp
   rename_i ho
   simp only [Option.some.injEq] at hq
   subst hq
   exact ofRef _ _ _ _ _ _ ho rfl (a0m (h.objs _ _ ho)) hev hp
 split at hq <;> try (cases hq;done)
 · rename_i ho
   simp only [Option.some.injEq] at hq
   subst hq
   exact ofWin _ _ _ _ _ _ _ _ ho rfl hev hp
 rename_i ho
 simp only [Option.some.injEq] at hq
 subst hq
 exact ofWin _ _ _ _ _ _ _ _ ho rfl hev hp
end
end
end Go.Hx
