/- A part of the proof: Hx11. -/
import Derived.Test.YteklilhbjjofbaaGreatDoorLe09
set_option linter.all false
namespace Go.Hx
section
open Go.RowKit
section
variable {E:Env} {ex:Bool} {o o':am} {e e':Ev}
section
variable {x:Operand}
def d4 {r:HR} (hx:e x = some r):∀ {l:List Operand},x ∈ l -> ∀ k ∈ r.ids,k ∈ bz e l
 | y :: l,hm,k,hk=>by
  rcases b2s.1 hm with rfl | hm
  · simp only [bz,hx];exact b2t _ hk
  simp only [bz];exact b2x _ (d4 hx hm k hk)
def m7:∀ {l:List Operand},(∀ x ∈ l,e' x = e x) -> bz e' l = bz e l
 | [],_=>rfl
 | x :: l,h=>by
  simp only [bz];rw [h x b5k,m7 fun y hy=>h y (by simp [hy])]
def b5o {p:Prop} (h:p:=by simp [HV.ids]):p:=h
variable {h:HV}
def uc (ho:∀ k ∈ h.ids,o' k = o k):tgt o' h = tgt o h:=by
 cases h with
 | p x=>cases x <;> rfl
 | ref id n=>rfl
 | ptr id off=>simp only [tgt];rw [ho id b5o]
 | eptr id n i j=>simp only [tgt];rw [ho id b5o]
 | win id n i m=>rfl
 | clo g k caps=>rfl
 | row id i k=>rfl
 | rptr id i k r j=>simp only [tgt];rw [ho id b5o]
 | pin id n ad cap=>rfl
def vt {places:List (Nat × Nat)}:∀ {parts:List (Nat × Operand)} {cells:List HV},(∀ x ∈ parts.map (·.2),e' x = e x) -> fb e' places cells parts = fb e places cells parts
 | [],_,_=>rfl
 | (i,x) :: r,cells,h=>by
  have hx:=h x b5k;have ih:∀ cells,fb e' places cells r = fb e places cells r:=fun cells=>vt fun y hy=>h y (by simp at hy ⊢;exact .inr hy);simp only [fb,hx,ih]
def a20:∀ {l:List Operand},(∀ x ∈ l,e' x = e x) -> ub e' l = ub e l
 | [],_=>rfl
 | x :: l,h=>by
  simp only [ub];rw [h x b5k,a20 fun y hy=>h y (by simp [hy])]
def a1u:∀ {l:List Operand},(∀ x ∈ l,e' x = e x) -> up e' l = up e l
 | [],_=>rfl
 | x :: l,h=>by
  simp only [up];rw [h x b5k,a1u fun y hy=>h y (by simp [hy])]
def j0 {x:Option Operand} (h:∀ y ∈ x.toList,e' y = e y):fj e' x = fj e x:=by
 cases x with
 | none=>rfl
 | some y=>simp only [fj];rw [h y b5k]
def a4n {b:Builtin} {args:List Operand} {tys:List TypeId} (h:∀ x ∈ args,e' x = e x):n8 E e' b args tys = n8 E e b args tys:=by
 unfold n8;split
 · rename_i x t r
   rw [h x b5k]
 · rename_i x y
   rw [h x b5k,h y b5k]
 · rename_i x y
   rw [h x b5k,h y b5k]
 rfl
def afw (ho:∀ k ∈ h.ids,o' k = o k):zx o' h = zx o h:=by
 cases h with
 | ref id n=>simp only [zx];rw [ho id b5o]
 | win id n i m=>simp only [zx];rw [ho id b5o]
 | row id i k=>simp only [zx];rw [ho id b5o]
 | _=>rfl
variable {n:Nat}
def ag0 {i:Int} (ho:∀ k ∈ h.ids,o' k = o k):a3d o' n i h = a3d o n i h:=by
 cases h with
 | ref id n=>simp only [a3d];rw [ho id b5o]
 | win id n i m=>simp only [a3d];rw [ho id b5o]
 | row id i k=>simp only [a3d];rw [ho id b5o]
 | p x=>cases x <;> rfl
 | _=>rfl
def acw {x y z:Option Int} (ho:∀ k ∈ h.ids,o' k = o k):sx o' n x y z h = sx o n x y z h:=by
 cases h with
 | ref id n=>simp only [sx];rw [ho id b5o]
 | win id n i m=>simp only [sx];rw [ho id b5o]
 | _=>rfl
def a7c {l:List Operand} {F:am -> HV -> Option Out} {α:Type} {d:α} {G:Option Out -> α} (hF:∀ h:HV,(∀ k ∈ h.ids,o' k = o k) -> F o' h = F o h) (hl:x ∈ l) (ho:∀ k ∈ bz e l,o' k = o k):
 (match e x with | some (.v (.one h))=>G (F o' h) | _=>d) = (match e x with | some (.v (.one h))=>G (F o h) | _=>d):=by
 cases hex:e x with
 | none=>rfl
 | some r =>
  cases r with
  | tup l=>rfl
  | v cc =>
   cases cc with
   | agg l=>rfl
   | one h =>
    dsimp only;rw [hF h fun k hk=>ho k (d4 hex hl k hk)]
def a6j {b:Builtin} {args:List Operand} {tys:List TypeId} (h:∀ x ∈ args,e' x = e x) (ho:∀ k ∈ bz e args,o' k = o k):ol E o' e' b args tys = ol E o e b args tys:=by
 unfold ol;split
 · rename_i x t r
   rw [h x b5k]
   cases E t with
   | none=>rfl
   | some ti =>
    dsimp only;cases ti.k <;> try rfl
    exact a7c (G:=id) (F:=zx) (fun h hh=>afw hh) b5k ho
 rfl
def ad5 (ho:∀ k ∈ bz e [x],o' k = o k):mh o' e x = mh o e x:=by
 unfold mh
 cases hex:e x with
 | none=>rfl
 | some r =>
  cases r with
  | tup l=>rfl
  | v cc =>
   cases cc with
   | agg l=>rfl
   | one h =>
    have:=uc (o:=o) (o':=o') (h:=h) (fun k hk=>ho k (d4 hex b5k k hk))
    cases h with
    | p x=>cases x <;> rfl
    | ref id n=>rfl
    | ptr id off=>dsimp only;rw [this]
    | eptr id n i j=>dsimp only;rw [this]
    | win id n i m=>rfl
    | clo g k caps=>rfl
    | row id i k=>rfl
    | rptr id i k r j=>dsimp only;rw [this]
    | pin id n ad cap=>rfl
variable {t:TypeId}
def ad1 (ho:∀ k ∈ bz e [x],o' k = o k):iz E o' e t x = iz E o e t x:=by
 unfold iz
 cases E t with
 | none=>rfl
 | some i =>
  dsimp only
  cases hex:e x with
  | none=>rfl
  | some r =>
   cases r with
   | tup l=>rfl
   | v cc =>
    cases cc with
    | agg l=>rfl
    | one h =>
     dsimp only;rw [uc (o:=o) (o':=o') (h:=h) (fun k hk=>ho k (d4 hex b5k k hk))]
def a19 {k:Nat} (ho:∀ k ∈ bz e [x],o' k = o k):dq E o' e t x k = dq E o e t x k:=by
 unfold dq
 cases E t with
 | none=>rfl
 | some i =>
  dsimp only;cases i.k <;> try rfl
  rename_i fs;dsimp only
  cases fs[k]? with
  | none=>rfl
  | some q =>
   obtain ⟨off,ft,bl⟩:=q;dsimp only
   cases E ft with
   | none=>rfl
   | some fi =>
    dsimp only
    cases hex:e x with
    | none=>rfl
    | some r =>
     cases r with
     | tup l=>rfl
     | v cc =>
      cases cc with
      | agg l=>rfl
      | one h =>
       dsimp only;rw [uc (o:=o) (o':=o') (h:=h) (fun k hk=>ho k (d4 hex b5k k hk))]
variable {el:TypeId} {i:Operand}
def a26 {len:Nat} (ho:∀ k ∈ bz e [x],o' k = o k):jq E o' e len el x i = jq E o e len el x i:=by
 unfold jq
 cases E el with
 | none=>rfl
 | some ei =>
  dsimp only
  cases hex:e x with
  | none=>rfl
  | some r =>
   cases r with
   | tup l=>rfl
   | v cc =>
    cases cc with
    | agg l=>rfl
    | one h =>
     dsimp only;rw [uc (o:=o) (o':=o') (h:=h) (fun k hk=>ho k (d4 hex b5k k hk))]
def a1a (ho:∀ k ∈ bz e [x],o' k = o k):eo E o' e t x i = eo E o e t x i:=by
 unfold eo
 cases E t with
 | none=>rfl
 | some ii =>
  dsimp only;cases ii.k <;> try rfl
  case array len el=>exact a26 ho
  rename_i el;dsimp only
  cases E el with
  | none=>rfl
  | some ei =>
   dsimp only
   cases hex:e x with
   | none=>rfl
   | some r =>
    cases r with
    | tup l=>rfl
    | v cc =>
     cases cc with
     | agg l=>rfl
     | one h =>
      dsimp only;have:=fun iv=>ag0 (o:=o) (o':=o') (h:=h) (n:=ei.size) (i:=iv) (fun k hk=>ho k (d4 hex b5k k hk));simp only [this]
def adp {kk:KK} {m:MK} {z:Value} {cm:Bool} (ho:∀ k ∈ h.ids,o' k = o k):a4u o' kk m z cm h = a4u o kk m z cm h:=by
 cases h with
 | ref id n=>simp only [a4u];rw [ho id b5o]
 | p y=>cases y <;> rfl
 | _=>rfl
def a5r {cm:Bool} (ho:∀ k ∈ bz e [x],o' k = o k):gu E o' e t x i cm = gu E o e t x i cm:=by
 unfold gu
 cases E t with
 | none=>rfl
 | some ii =>
  dsimp only;cases ii.k <;> try rfl
  rename_i kt et;dsimp only
  cases a8l E kt et with
  | none=>rfl
  | some q =>
   obtain ⟨kk,z⟩:=q;dsimp only
   cases hex:e x with
   | none=>rfl
   | some r =>
    cases r with
    | tup l=>rfl
    | v cc =>
     cases cc with
     | agg l=>rfl
     | one h =>
      dsimp only;have:=fun m=>adp (o:=o) (o':=o') (h:=h) (kk:=kk) (m:=m) (z:=z) (cm:=cm) (fun k hk=>ho k (d4 hex b5k k hk));simp only [this]
def a8g {op:BinOp} (ho:∀ k ∈ h.ids,o' k = o k):wa o' op h = wa o op h:=by
 cases h with
 | ptr id n=>simp only [wa];rw [ho id b5o]
 | p x=>cases x with
  | raw v=>cases v <;> rfl
  | _=>rfl
 | _=>rfl
def a6g {op:BinOp} {y:Operand} (ho:∀ k ∈ bz e [x],o' k = o k):gp E o' e op t x y = gp E o e op t x y:=by
 unfold gp;split <;> try rfl
 cases E t with
 | none=>rfl
 | some ii =>
  dsimp only;cases ii.k <;> try rfl
  dsimp only
  cases hex:e x with
  | none=>rfl
  | some r =>
   cases r with
   | tup l=>rfl
   | v cc =>
    cases cc with
    | agg l=>rfl
    | one h=>exact a8g (fun k hk=>ho k (d4 hex b5k k hk))
def b5l {p:Prop} (h:p:=by simp [Op.operands]):p:=h
variable {op:Op}
def amu (hx:∀ x ∈ op.operands,e' x = e x) (ho:∀ k ∈ bz e op.operands.toList,o' k = o k):hq E ex o' e' op = hq E ex o e op:=by
 cases op <;> try rfl
 case move x=>show Option.map _ (e' x) = Option.map _ (e x);rw [hx x b5l]
 case assign x=>show Option.map _ (e' x) = Option.map _ (e x);rw [hx x b5l]
 case pick c x y =>
  show vu e' c x y = vu e c x y;unfold vu;rw [hx c b5l,hx x b5l,hx y b5l]
 case nilCheck x =>
  show mh o' e' x = mh o e x;have h1:mh o' e' x = mh o' e x:=by unfold mh;rw [hx x b5l]
  rw [h1];exact ad5 (by simpa [Op.operands] using ho)
 case load t x =>
  show iz E o' e' t x = iz E o e t x;have h1:iz E o' e' t x = iz E o' e t x:=by unfold iz;rw [hx x b5l]
  rw [h1];exact ad1 (by simpa [Op.operands] using ho)
 case fieldAddr t x k =>
  show dq E o' e' t x k = dq E o e t x k;have h1:dq E o' e' t x k = dq E o' e t x k:=by unfold dq;rw [hx x b5l]
  rw [h1];exact a19 (by simpa [Op.operands] using ho)
 case field t x k =>
  show sd E e' t x k = sd E e t x k;unfold sd;rw [hx x b5l]
 case indexAddr t x i =>
  show eo E o' e' t x i = eo E o e t x i;have h1:eo E o' e' t x i = eo E o' e t x i:=by unfold eo jq;rw [hx x b5l,hx i b5l]
  rw [h1];refine a1a fun k hk=>ho k ?_;simp only [bz,Op.operands,b3i] at hk ⊢;exact b2t _ hk
 case lookup t x i cm =>
  show gu E o' e' t x i cm = gu E o e t x i cm;have h1:gu E o' e' t x i cm = gu E o' e t x i cm:=by unfold gu;rw [hx x b5l,hx i b5l]
  rw [h1];refine a5r fun k hk=>ho k ?_;simp only [bz,Op.operands,b3i] at hk ⊢;exact b2t _ hk
 case index t x i =>
  show sb E e' t x i = sb E e t x i;unfold sb;rw [hx x b5l,hx i b5l]
 case binOp op t x y ty =>
  have h1:a0b E ex e' op t x y = a0b E ex e op t x y:=by
   unfold a0b;rw [hx x b5l,hx y b5l]
  have h2:p7 E e' op t x y = p7 E e op t x y:=by
   unfold p7;rw [hx x b5l]
  have h3:gp E o' e' op t x y = gp E o e op t x y:=by
   have h1:gp E o' e' op t x y = gp E o' e op t x y:=by unfold gp;rw [hx x b5l]
   rw [h1];refine a6g fun k hk=>ho k ?_;simp only [bz,Op.operands,b3i] at hk ⊢;exact b2t _ hk
  simp only [hq];rw [h1,h2,h3]
 case unOp op t x =>
  show a6t ex e' op x = a6t ex e op x;unfold a6t;rw [hx x b5l]
 case convert src dst x =>
  show ww E ex e' src dst x = ww E ex e src dst x;unfold ww;rw [hx x b5l]
 case extract x i =>
  show nc e' x i = nc e x i;unfold nc;rw [hx x b5l]
 case slice t x lo hi mx =>
  have e0:=hx x b5l;have e1:=j0 (e:=e) (e':=e') (x:=lo) (fun y hy=>hx y (by simp [Op.operands];simp at hy;simp [hy]));have e2:=j0 (e:=e) (e':=e') (x:=hi) (fun y hy=>hx y (by simp [Op.operands];simp at hy;simp [hy]));have e3:=j0 (e:=e) (e':=e') (x:=mx) (fun y hy=>hx y (by simp [Op.operands];simp at hy;simp [hy]))
  have h1:i7 E e' t x lo hi mx = i7 E e t x lo hi mx:=by
   unfold i7;rw [e0,e1,e2,e3]
  have h2:a17 E o' e' t x lo hi mx = a17 E o e t x lo hi mx:=by
   unfold a17;rw [e0,e1,e2,e3]
   cases E t with
   | none=>rfl
   | some ti =>
    dsimp only;cases ti.k <;> try rfl
    rename_i el;dsimp only
    cases E el with
    | none=>rfl
    | some ei =>
     dsimp only
     cases fj e lo with
     | none=>rfl
     | some l =>
      cases fj e hi with
      | none=>rfl
      | some hh =>
       cases fj e mx with
       | none=>rfl
       | some m =>
        dsimp only;exact a7c (G:=id) (F:=fun o h=>sx o ei.size l hh m h) (fun h hh=>acw hh) (l:=(Op.slice t x lo hi mx).operands.toList) b5l ho
  simp only [hq];rw [h1,h2]
 case makeFunc fn first caps =>
  show ws e' fn first.toList caps.toList = ws e fn first.toList caps.toList
  unfold ws;rw [a20 (l:=caps.toList) (fun y hy=>hx y (by simp [Op.operands];simp at hy;exact .inr hy)),a1u (l:=caps.toList) (fun y hy=>hx y (by simp [Op.operands];simp at hy;exact .inr hy))];split
  · rfl
  · rename_i f x hf
    rw [hx x (by simp [Op.operands];left;rw [<- Array.mem_toList_iff,hf];simp)]
  rfl
 case build t parts =>
  show sg E e' t parts.toList = sg E e t parts.toList;have hf:∀ places cells,fb e' places cells parts.toList = fb e places cells parts.toList:=fun places cells=>vt fun x hm=>hx x (by simpa [Op.operands] using hm);unfold sg;simp only [hf]
 case call c =>
  simp only [hq]
  cases hc:c.callee with
  | value f=>rfl
  | invoke r m=>rfl
  | builtin b =>
   simp only [Op.operands,Call.operands,hc] at hx ho;have h1:∀ x ∈ c.args.toList,e' x = e x:=fun x hm=>hx x (by simpa using hm);have h2:∀ k ∈ bz e c.args.toList,o' k = o k:=fun k hk=>ho k (by simpa using hk);dsimp only;rw [a4n h1,a6j h1 h2]
variable {id:Nat}
def alg (hx:∀ x ∈ op.operands,e' x = e x):ha E e' id op = ha E e id op:=by
 cases op <;> simp only [ha] <;> simp only [Op.operands] at hx
 case box t x=>rw [hx x b5k]
 case buildSlice t n parts =>
  have hf:∀ sz cells,a0h e' sz n parts.toList cells = a0h e sz n parts.toList cells:=fun sz cells=>by
   unfold a0h;exact vt fun x hm=>hx x (by simpa using hm)
  simp only [hf]
 case makeSlice t l c=>rw [hx l b5k,hx c b5k]
def a8h {y:Operand} (ho:∀ k ∈ bz e [x,y],o' k = o k):i6 E o' e t x y = i6 E o e t x y:=by
 unfold i6
 cases E t with
 | none=>rfl
 | some i =>
  cases hv:e y with
  | none=>rfl
  | some rv =>
   cases rv with
   | tup l=>rfl
   | v cv =>
    cases hex:e x with
    | none=>rfl
    | some r =>
     cases r with
     | tup l=>rfl
     | v cc =>
      cases cc with
      | agg l=>rfl
      | one h =>
       cases h with
       | p x=>cases x <;> rfl
       | ref id n=>rfl
       | ptr id off=>dsimp only;rw [ho id (d4 hex b5k id (by simp [HR.ids,HC.ids,HV.ids]))]
       | eptr id n r j=>dsimp only;rw [ho id (d4 hex b5k id (by simp [HR.ids,HC.ids,HV.ids]))]
       | win id n i m=>rfl
       | clo g k caps=>rfl
       | row id i k=>rfl
       | rptr id i k r j=>dsimp only;rw [ho id (d4 hex b5k id (by simp [HR.ids,HC.ids,HV.ids]))]
       | pin id n ad cap=>rfl
def aco {kk:KK} {m:MK} {y:PV} (ho:∀ k ∈ h.ids,o' k = o k):yu o' kk m y h = yu o kk m y h:=by
 cases h with
 | ref id n=>simp only [yu];rw [ho id b5o]
 | _=>rfl
def a1l {v:Operand} (ho:∀ k ∈ bz e [x],o' k = o k):ij E o' e t x i v = ij E o e t x i v:=by
 unfold ij
 cases E t with
 | none=>rfl
 | some ii =>
  dsimp only;cases ii.k <;> try rfl
  rename_i kt et;dsimp only
  cases E kt with
  | none=>rfl
  | some ki =>
   dsimp only
   cases hex:e x with
   | none=>rfl
   | some r =>
    cases r with
    | tup l=>rfl
    | v cc =>
     cases cc with
     | agg l=>rfl
     | one h =>
      dsimp only;have:=fun kk m y=>aco (o:=o) (o':=o') (h:=h) (kk:=kk) (m:=m) (y:=y) (fun k hk=>ho k (d4 hex b5k k hk));simp only [this]
def abn (hx:∀ x ∈ op.operands,e' x = e x) (ho:∀ k ∈ bz e op.operands.toList,o' k = o k):hs E o' e' op = hs E o e op:=by
 cases op <;> try rfl
 case mapUpdate t x i v =>
  show ij E o' e' t x i v = ij E o e t x i v;have h1:ij E o' e' t x i v = ij E o' e t x i v:=by unfold ij;rw [hx x b5l,hx i b5l,hx v b5l]
  rw [h1];refine a1l fun k hk=>ho k ?_;simp only [bz,Op.operands,b3i] at hk ⊢;exact b2t _ hk
 case insert t x i v =>
  show ij E o' e' t x i v = ij E o e t x i v;have h1:ij E o' e' t x i v = ij E o' e t x i v:=by unfold ij;rw [hx x b5l,hx i b5l,hx v b5l]
  rw [h1];refine a1l fun k hk=>ho k ?_;simp only [bz,Op.operands,b3i] at hk ⊢;exact b2t _ hk
 case store t addr v =>
  show i6 E o' e' t addr v = i6 E o e t addr v;have h1:i6 E o' e' t addr v = i6 E o' e t addr v:=by unfold i6;rw [hx addr b5l,hx v b5l]
  rw [h1];exact a8h (by simpa [Op.operands] using ho)
def a1m (ho:∀ k ∈ h.ids,o' k = o k):s4 o' id h = s4 o id h:=by
 cases h with
 | p x =>
  cases x with
  | raw v =>
   cases v with
   | slice a n c=>cases n <;> rfl
   | _=>rfl
  | _=>rfl
 | ref id' n=>simp only [s4];rw [ho id' b5o]
 | _=>rfl
variable {wb:Bool}
def vi {y:HV} (hid:o' id = o id) (ho:∀ k ∈ y.ids,o' k = o k):mc E o' id n wb el y = mc E o id n wb el y:=by
 simp only [mc];rw [hid,a1m ho]
def a4m (ho:∀ k ∈ h.ids,o' k = o k):zg o' id h = zg o id h:=by
 simp only [zg];rw [a1m ho]
 cases h with
 | ref id' n=>simp only;rw [ho id' b5o]
 | _=>rfl
def aax {y:HV} (hid:o' id = o id) (ho:∀ k ∈ y.ids,o' k = o k):tv E o' id n el y = tv E o id n el y:=by
 simp only [tv];rw [hid,a4m ho]
def ah4 {y:HV} (hid:o' id = o id) (ho:∀ k ∈ y.ids,o' k = o k):a2t E o' id n el y = a2t E o id n el y:=by
 simp only [a2t];rw [hid,a4m ho]
def adk {i k:Nat} {y:HV} (hid:o' id = o id):xz E o' el id n i k y = xz E o el id n i k y:=by
 unfold xz;rw [hid]
def ahc {z:List Value} (ho:∀ k ∈ h.ids,o' k = o k):a6s o' z n h = a6s o z n h:=by
 cases h with
 | win id n i m=>simp only [a6s];rw [ho id b5o]
 | _=>rfl
def ad7 {hy hx:HV} (h1:∀ k ∈ hx.ids,o' k = o k) (h2:∀ k ∈ hy.ids,o' k = o k):qz E o' id wb el hy hx = qz E o id wb el hy hx:=by
 cases hx with
 | win id1 n i k =>
  simp only [qz];exact adk (h1 id1 b5o)
 | pin id1 n ad cap =>
  simp only [qz];rw [vi (o:=o) (o':=o') (h1 id1 b5o) h2]
 | ref id1 n =>
  simp only [qz];rw [vi (o:=o) (o':=o') (h1 id1 b5o) h2,aax (o:=o) (o':=o') (h1 id1 b5o) h2,ah4 (o:=o) (o':=o') (h1 id1 b5o) h2]
 | p px =>
  cases px with
  | sl n sz cl f =>
   cases cl with
   | false=>rfl
   | true =>
    simp only [qz]
    cases E el with
    | none=>rfl
    | some ei =>
     dsimp only
     rw [vi (o:=fun k=>if k = id then some (a6.arr false ei.size el n f) else o k) (o':=fun k=>if k = id then some (a6.arr false ei.size el n f) else o' k) b5k (fun k hk=>by
      try dsimp only
      split
      · rfl
      exact h2 k hk)]
  | _=>rfl
 | _=>rfl
def adq {x y:Option HR} (hx:∀ r,x = some r -> ∀ k ∈ r.ids,o' k = o k) (hy:∀ r,y = some r -> ∀ k ∈ r.ids,o' k = o k):
 a0a E o' id wb t x y = a0a E o id wb t x y:=by
 unfold a0a
 cases E t with
 | none=>rfl
 | some i =>
  dsimp only;cases i.k <;> try rfl
  rename_i el
  cases x with
  | none=>rfl
  | some rx =>
   cases rx with
   | tup l=>rfl
   | v cx =>
    cases cx with
    | agg l=>rfl
    | one hxv =>
     cases y with
     | none=>rfl
     | some ry =>
      cases ry with
      | tup l=>rfl
      | v cy =>
       cases cy with
       | agg l=>rfl
       | one hyv=>exact ad7 (hx _ rfl) (hy _ rfl)
def aj8 (hx:∀ x ∈ op.operands,e' x = e x) (ho:∀ k ∈ bz e op.operands.toList,o' k = o k):hap E o' e' id wb op = hap E o e id wb op:=by
 cases op <;> try rfl
 case call c =>
  unfold hap;dsimp only;split
  · rename_i hc
    simp only [Op.operands,Call.operands,hc] at hx ho;have h1:∀ x ∈ c.args.toList,e' x = e x:=fun x hm=>hx x (by simpa using hm);have h2:∀ k ∈ bz e c.args.toList,o' k = o k:=fun k hk=>ho k (by simpa using hk);generalize c.args.toList = l at h1 h2;unfold a0q;split
    · rename_i x y t t' _
      split
      · rw [h1 x b5k,h1 y b5k]
        exact adq (fun r hr k hk=>h2 k (d4 hr b5k k hk)) (fun r hr k hk=>h2 k (d4 hr b5k k hk))
      rfl
    rfl
  · rename_i hc
    simp only [Op.operands,Call.operands,hc] at hx ho;have h1:∀ x ∈ c.args.toList,e' x = e x:=fun x hm=>hx x (by simpa using hm);have h2:∀ k ∈ bz e c.args.toList,o' k = o k:=fun k hk=>ho k (by simpa using hk);generalize c.args.toList = l at h1 h2;unfold sq;split
    · rename_i x t _
      rw [h1 x b5k]
      cases E t with
      | none=>rfl
      | some ti =>
       dsimp only;cases ti.k <;> try rfl
       rename_i el;dsimp only
       cases E el with
       | none=>rfl
       | some ei =>
        dsimp only
        cases ei.zero with
        | none=>rfl
        | some z =>
         dsimp only;split
         · cases hex:e x with
           | none=>rfl
           | some r =>
            cases r with
            | tup l=>rfl
            | v cc =>
             cases cc with
             | agg l=>rfl
             | one hv=>exact ahc fun k hk=>h2 k (d4 hex b5k k hk)
         rfl
    rfl
  rfl
def a1i (ho:∀ k ∈ h.ids,o' k = o k):x5 o' h = x5 o h:=by
 cases h with
 | ref id n=>simp only [x5];rw [ho id b5o]
 | _=>rfl
end
end
end
end Go.Hx
