/- A part of the proof: Hx11. -/
import Derived.Test.YteklilhbjjofbaaGreatDoorLd09
set_option linter.all false
namespace Go.Hx
section
open Go.RowKit
section
variable {E:Env} {ex:Bool} {o o':aq} {e e':Ev}
section
variable {x:Operand}
def dp {r:HR} (hx:e x = some r):∀ {l:List Operand},x ∈ l -> ∀ k ∈ r.ids,k ∈ ck e l
 | y :: l,hm,k,hk=>by
  rcases b5k.1 hm with rfl | hm
  · simp only [ck,hx];exact b5o _ hk
  simp only [ck];exact b5y _ (dp hx hm k hk)
def mw:∀ {l:List Operand},(∀ x ∈ l,e' x = e x) -> ck e' l = ck e l
 | [],_=>rfl
 | x :: l,h=>by
  simp only [ck];rw [h x b8l,mw fun y hy=>h y (by simp [hy])]
def b8o {p:Prop} (h:p:=by simp [HV.ids]):p:=h
variable {h:HV}
def vo (ho:∀ k ∈ h.ids,o' k = o k):tgt o' h = tgt o h:=by
 cases h with
 | p x=>cases x <;> rfl
 | ref id n=>rfl
 | ptr id off=>simp only [tgt];rw [ho id b8o]
 | eptr id n i j=>simp only [tgt];rw [ho id b8o]
 | win id n i m=>rfl
 | clo g k caps=>rfl
 | row id i k=>rfl
 | rptr id i k r j=>simp only [tgt];rw [ho id b8o]
 | pin id n ad cap=>rfl
def wu {places:List (Nat × Nat)}:∀ {parts:List (Nat × Operand)} {cells:List HV},(∀ x ∈ parts.map (·.2),e' x = e x) -> fl e' places cells parts = fl e places cells parts
 | [],_,_=>rfl
 | (i,x) :: r,cells,h=>by
  have hx:=h x b8l;have ih:∀ cells,fl e' places cells r = fl e places cells r:=fun cells=>wu fun y hy=>h y (by simp at hy ⊢;exact .inr hy);simp only [fl,hx,ih]
def a31:∀ {l:List Operand},(∀ x ∈ l,e' x = e x) -> vh e' l = vh e l
 | [],_=>rfl
 | x :: l,h=>by
  simp only [vh];rw [h x b8l,a31 fun y hy=>h y (by simp [hy])]
def a30:∀ {l:List Operand},(∀ x ∈ l,e' x = e x) -> wc e' l = wc e l
 | [],_=>rfl
 | x :: l,h=>by
  simp only [wc];rw [h x b8l,a30 fun y hy=>h y (by simp [hy])]
def kc {x:Option Operand} (h:∀ y ∈ x.toList,e' y = e y):ge e' x = ge e x:=by
 cases x with
 | none=>rfl
 | some y=>simp only [ge];rw [h y b8l]
def a59 {b:Builtin} {args:List Operand} {tys:List TypeId} (h:∀ x ∈ args,e' x = e x):ot E e' b args tys = ot E e b args tys:=by
 unfold ot;split
 · rename_i x t r
   rw [h x b8l]
 · rename_i x y
   rw [h x b8l,h y b8l]
 · rename_i x y
   rw [h x b8l,h y b8l]
 rfl
def ajn (ho:∀ k ∈ h.ids,o' k = o k):a0f o' h = a0f o h:=by
 cases h with
 | ref id n=>simp only [a0f];rw [ho id b8o]
 | win id n i m=>simp only [a0f];rw [ho id b8o]
 | row id i k=>simp only [a0f];rw [ho id b8o]
 | _=>rfl
variable {n:Nat}
def ai0 {i:Int} (ho:∀ k ∈ h.ids,o' k = o k):a3r o' n i h = a3r o n i h:=by
 cases h with
 | ref id n=>simp only [a3r];rw [ho id b8o]
 | win id n i m=>simp only [a3r];rw [ho id b8o]
 | row id i k=>simp only [a3r];rw [ho id b8o]
 | p x=>cases x <;> rfl
 | _=>rfl
def ab6 {x y z:Option Int} (ho:∀ k ∈ h.ids,o' k = o k):v2 o' n x y z h = v2 o n x y z h:=by
 cases h with
 | ref id n=>simp only [v2];rw [ho id b8o]
 | win id n i m=>simp only [v2];rw [ho id b8o]
 | _=>rfl
def a9h {l:List Operand} {F:aq -> HV -> Option Out} {α:Type} {d:α} {G:Option Out -> α} (hF:∀ h:HV,(∀ k ∈ h.ids,o' k = o k) -> F o' h = F o h) (hl:x ∈ l) (ho:∀ k ∈ ck e l,o' k = o k):
 (match e x with | some (.v (.one h))=>G (F o' h) | _=>d) = (match e x with | some (.v (.one h))=>G (F o h) | _=>d):=by
 cases hex:e x with
 | none=>rfl
 | some r =>
  cases r with
  | tup l=>rfl
  | v cc =>
   cases cc with
   | agg l=>rfl
   | one h =>
    dsimp only;rw [hF h fun k hk=>ho k (dp hex hl k hk)]
def a8b {b:Builtin} {args:List Operand} {tys:List TypeId} (h:∀ x ∈ args,e' x = e x) (ho:∀ k ∈ ck e args,o' k = o k):qj E o' e' b args tys = qj E o e b args tys:=by
 unfold qj;split
 · rename_i x t r
   rw [h x b8l]
   cases E t with
   | none=>rfl
   | some ti =>
    dsimp only;cases ti.k <;> try rfl
    exact a9h (G:=id) (F:=a0f) (fun h hh=>ajn hh) b8l ho
 rfl
def afk (ho:∀ k ∈ ck e [x],o' k = o k):nf o' e x = nf o e x:=by
 unfold nf
 cases hex:e x with
 | none=>rfl
 | some r =>
  cases r with
  | tup l=>rfl
  | v cc =>
   cases cc with
   | agg l=>rfl
   | one h =>
    have:=vo (o:=o) (o':=o') (h:=h) (fun k hk=>ho k (dp hex b8l k hk))
    cases h with
    | p x=>cases x <;> rfl
    | ref id n=>rfl
    | ptr id off=>dsimp only;rw [this]
    | eptr id n i j=>dsimp only;rw [this]
    | win id n i m=>rfl
    | clo g k caps=>rfl
    | row id i k=>rfl
    | rptr id i k r j=>dsimp only;rw [this]
    | pin id n ad cap=>rfl
variable {t:TypeId}
def ady (ho:∀ k ∈ ck e [x],o' k = o k):jy E o' e t x = jy E o e t x:=by
 unfold jy
 cases E t with
 | none=>rfl
 | some i =>
  dsimp only
  cases hex:e x with
  | none=>rfl
  | some r =>
   cases r with
   | tup l=>rfl
   | v cc =>
    cases cc with
    | agg l=>rfl
    | one h =>
     dsimp only;rw [vo (o:=o) (o':=o') (h:=h) (fun k hk=>ho k (dp hex b8l k hk))]
def a2u {k:Nat} (ho:∀ k ∈ ck e [x],o' k = o k):ep E o' e t x k = ep E o e t x k:=by
 unfold ep
 cases E t with
 | none=>rfl
 | some i =>
  dsimp only;cases i.k <;> try rfl
  rename_i fs;dsimp only
  cases fs[k]? with
  | none=>rfl
  | some q =>
   obtain ⟨off,ft,bl⟩:=q;dsimp only
   cases E ft with
   | none=>rfl
   | some fi =>
    dsimp only
    cases hex:e x with
    | none=>rfl
    | some r =>
     cases r with
     | tup l=>rfl
     | v cc =>
      cases cc with
      | agg l=>rfl
      | one h =>
       dsimp only;rw [vo (o:=o) (o':=o') (h:=h) (fun k hk=>ho k (dp hex b8l k hk))]
variable {el:TypeId} {i:Operand}
def a4f {len:Nat} (ho:∀ k ∈ ck e [x],o' k = o k):kx E o' e len el x i = kx E o e len el x i:=by
 unfold kx
 cases E el with
 | none=>rfl
 | some ei =>
  dsimp only
  cases hex:e x with
  | none=>rfl
  | some r =>
   cases r with
   | tup l=>rfl
   | v cc =>
    cases cc with
    | agg l=>rfl
    | one h =>
     dsimp only;rw [vo (o:=o) (o':=o') (h:=h) (fun k hk=>ho k (dp hex b8l k hk))]
def a2w (ho:∀ k ∈ ck e [x],o' k = o k):fb E o' e t x i = fb E o e t x i:=by
 unfold fb
 cases E t with
 | none=>rfl
 | some ii =>
  dsimp only;cases ii.k <;> try rfl
  case array len el=>exact a4f ho
  rename_i el;dsimp only
  cases E el with
  | none=>rfl
  | some ei =>
   dsimp only
   cases hex:e x with
   | none=>rfl
   | some r =>
    cases r with
    | tup l=>rfl
    | v cc =>
     cases cc with
     | agg l=>rfl
     | one h =>
      dsimp only;have:=fun iv=>ai0 (o:=o) (o':=o') (h:=h) (n:=ei.size) (i:=iv) (fun k hk=>ho k (dp hex b8l k hk));simp only [this]
def afl {kk:KK} {m:MK} {z:Value} {cm:Bool} (ho:∀ k ∈ h.ids,o' k = o k):a5n o' kk m z cm h = a5n o kk m z cm h:=by
 cases h with
 | ref id n=>simp only [a5n];rw [ho id b8o]
 | p y=>cases y <;> rfl
 | _=>rfl
def a87 {cm:Bool} (ho:∀ k ∈ ck e [x],o' k = o k):ij E o' e t x i cm = ij E o e t x i cm:=by
 unfold ij
 cases E t with
 | none=>rfl
 | some ii =>
  dsimp only;cases ii.k <;> try rfl
  rename_i kt et;dsimp only
  cases ab1 E kt et with
  | none=>rfl
  | some q =>
   obtain ⟨kk,z⟩:=q;dsimp only
   cases hex:e x with
   | none=>rfl
   | some r =>
    cases r with
    | tup l=>rfl
    | v cc =>
     cases cc with
     | agg l=>rfl
     | one h =>
      dsimp only;have:=fun m=>afl (o:=o) (o':=o') (h:=h) (kk:=kk) (m:=m) (z:=z) (cm:=cm) (fun k hk=>ho k (dp hex b8l k hk));simp only [this]
def aaf {op:BinOp} (ho:∀ k ∈ h.ids,o' k = o k):xi o' op h = xi o op h:=by
 cases h with
 | ptr id n=>simp only [xi];rw [ho id b8o]
 | p x=>cases x with
  | raw v=>cases v <;> rfl
  | _=>rfl
 | _=>rfl
def a78 {op:BinOp} {y:Operand} (ho:∀ k ∈ ck e [x],o' k = o k):io E o' e op t x y = io E o e op t x y:=by
 unfold io;split <;> try rfl
 cases E t with
 | none=>rfl
 | some ii =>
  dsimp only;cases ii.k <;> try rfl
  dsimp only
  cases hex:e x with
  | none=>rfl
  | some r =>
   cases r with
   | tup l=>rfl
   | v cc =>
    cases cc with
    | agg l=>rfl
    | one h=>exact aaf (fun k hk=>ho k (dp hex b8l k hk))
def b8m {p:Prop} (h:p:=by simp [Op.operands]):p:=h
variable {op:Op}
def aos (hx:∀ x ∈ op.operands,e' x = e x) (ho:∀ k ∈ ck e op.operands.toList,o' k = o k):hq E ex o' e' op = hq E ex o e op:=by
 cases op <;> try rfl
 case move x=>show Option.map _ (e' x) = Option.map _ (e x);rw [hx x b8m]
 case assign x=>show Option.map _ (e' x) = Option.map _ (e x);rw [hx x b8m]
 case pick c x y =>
  show xj e' c x y = xj e c x y;unfold xj;rw [hx c b8m,hx x b8m,hx y b8m]
 case nilCheck x =>
  show nf o' e' x = nf o e x;have h1:nf o' e' x = nf o' e x:=by unfold nf;rw [hx x b8m]
  rw [h1];exact afk (by simpa [Op.operands] using ho)
 case load t x =>
  show jy E o' e' t x = jy E o e t x;have h1:jy E o' e' t x = jy E o' e t x:=by unfold jy;rw [hx x b8m]
  rw [h1];exact ady (by simpa [Op.operands] using ho)
 case fieldAddr t x k =>
  show ep E o' e' t x k = ep E o e t x k;have h1:ep E o' e' t x k = ep E o' e t x k:=by unfold ep;rw [hx x b8m]
  rw [h1];exact a2u (by simpa [Op.operands] using ho)
 case field t x k =>
  show u0 E e' t x k = u0 E e t x k;unfold u0;rw [hx x b8m]
 case indexAddr t x i =>
  show fb E o' e' t x i = fb E o e t x i;have h1:fb E o' e' t x i = fb E o' e t x i:=by unfold fb kx;rw [hx x b8m,hx i b8m]
  rw [h1];refine a2w fun k hk=>ho k ?_;simp only [ck,Op.operands,b6h] at hk ⊢;exact b5o _ hk
 case lookup t x i cm =>
  show ij E o' e' t x i cm = ij E o e t x i cm;have h1:ij E o' e' t x i cm = ij E o' e t x i cm:=by unfold ij;rw [hx x b8m,hx i b8m]
  rw [h1];refine a87 fun k hk=>ho k ?_;simp only [ck,Op.operands,b6h] at hk ⊢;exact b5o _ hk
 case index t x i =>
  show tz E e' t x i = tz E e t x i;unfold tz;rw [hx x b8m,hx i b8m]
 case binOp op t x y ty =>
  have h1:a1m E ex e' op t x y = a1m E ex e op t x y:=by
   unfold a1m;rw [hx x b8m,hx y b8m]
  have h2:qg E e' op t x y = qg E e op t x y:=by
   unfold qg;rw [hx x b8m]
  have h3:io E o' e' op t x y = io E o e op t x y:=by
   have h1:io E o' e' op t x y = io E o' e op t x y:=by unfold io;rw [hx x b8m]
   rw [h1];refine a78 fun k hk=>ho k ?_;simp only [ck,Op.operands,b6h] at hk ⊢;exact b5o _ hk
  simp only [hq];rw [h1,h2,h3]
 case unOp op t x =>
  show a8t ex e' op x = a8t ex e op x;unfold a8t;rw [hx x b8m]
 case convert src dst x =>
  show xe E ex e' src dst x = xe E ex e src dst x;unfold xe;rw [hx x b8m]
 case extract x i =>
  show o6 e' x i = o6 e x i;unfold o6;rw [hx x b8m]
 case slice t x lo hi mx =>
  have e0:=hx x b8m;have e1:=kc (e:=e) (e':=e') (x:=lo) (fun y hy=>hx y (by simp [Op.operands];simp at hy;simp [hy]));have e2:=kc (e:=e) (e':=e') (x:=hi) (fun y hy=>hx y (by simp [Op.operands];simp at hy;simp [hy]));have e3:=kc (e:=e) (e':=e') (x:=mx) (fun y hy=>hx y (by simp [Op.operands];simp at hy;simp [hy]))
  have h1:j1 E e' t x lo hi mx = j1 E e t x lo hi mx:=by
   unfold j1;rw [e0,e1,e2,e3]
  have h2:a2j E o' e' t x lo hi mx = a2j E o e t x lo hi mx:=by
   unfold a2j;rw [e0,e1,e2,e3]
   cases E t with
   | none=>rfl
   | some ti =>
    dsimp only;cases ti.k <;> try rfl
    rename_i el;dsimp only
    cases E el with
    | none=>rfl
    | some ei =>
     dsimp only
     cases ge e lo with
     | none=>rfl
     | some l =>
      cases ge e hi with
      | none=>rfl
      | some hh =>
       cases ge e mx with
       | none=>rfl
       | some m =>
        dsimp only;exact a9h (G:=id) (F:=fun o h=>v2 o ei.size l hh m h) (fun h hh=>ab6 hh) (l:=(Op.slice t x lo hi mx).operands.toList) b8m ho
  simp only [hq];rw [h1,h2]
 case makeFunc fn first caps =>
  show yb e' fn first.toList caps.toList = yb e fn first.toList caps.toList
  unfold yb;rw [a31 (l:=caps.toList) (fun y hy=>hx y (by simp [Op.operands];simp at hy;exact .inr hy)),a30 (l:=caps.toList) (fun y hy=>hx y (by simp [Op.operands];simp at hy;exact .inr hy))];split
  · rfl
  · rename_i f x hf
    rw [hx x (by simp [Op.operands];left;rw [<- Array.mem_toList_iff,hf];simp)]
  rfl
 case build t parts =>
  show tq E e' t parts.toList = tq E e t parts.toList;have hf:∀ places cells,fl e' places cells parts.toList = fl e places cells parts.toList:=fun places cells=>wu fun x hm=>hx x (by simpa [Op.operands] using hm);unfold tq;simp only [hf]
 case call c =>
  simp only [hq]
  cases hc:c.callee with
  | value f=>rfl
  | invoke r m=>rfl
  | builtin b =>
   simp only [Op.operands,Call.operands,hc] at hx ho;have h1:∀ x ∈ c.args.toList,e' x = e x:=fun x hm=>hx x (by simpa using hm);have h2:∀ k ∈ ck e c.args.toList,o' k = o k:=fun k hk=>ho k (by simpa using hk);dsimp only;rw [a59 h1,a8b h1 h2]
variable {id:Nat}
def anc (hx:∀ x ∈ op.operands,e' x = e x):ha E e' id op = ha E e id op:=by
 cases op <;> simp only [ha] <;> simp only [Op.operands] at hx
 case box t x=>rw [hx x b8l]
 case buildSlice t n parts =>
  have hf:∀ sz cells,a1n e' sz n parts.toList cells = a1n e sz n parts.toList cells:=fun sz cells=>by
   unfold a1n;exact wu fun x hm=>hx x (by simpa using hm)
  simp only [hf]
 case makeSlice t l c=>rw [hx l b8l,hx c b8l]
def aak {y:Operand} (ho:∀ k ∈ ck e [x,y],o' k = o k):iz E o' e t x y = iz E o e t x y:=by
 unfold iz
 cases E t with
 | none=>rfl
 | some i =>
  cases hv:e y with
  | none=>rfl
  | some rv =>
   cases rv with
   | tup l=>rfl
   | v cv =>
    cases hex:e x with
    | none=>rfl
    | some r =>
     cases r with
     | tup l=>rfl
     | v cc =>
      cases cc with
      | agg l=>rfl
      | one h =>
       cases h with
       | p x=>cases x <;> rfl
       | ref id n=>rfl
       | ptr id off=>dsimp only;rw [ho id (dp hex b8l id (by simp [HR.ids,HC.ids,HV.ids]))]
       | eptr id n r j=>dsimp only;rw [ho id (dp hex b8l id (by simp [HR.ids,HC.ids,HV.ids]))]
       | win id n i m=>rfl
       | clo g k caps=>rfl
       | row id i k=>rfl
       | rptr id i k r j=>dsimp only;rw [ho id (dp hex b8l id (by simp [HR.ids,HC.ids,HV.ids]))]
       | pin id n ad cap=>rfl
def aez {kk:KK} {m:MK} {y:PV} (ho:∀ k ∈ h.ids,o' k = o k):a0k o' kk m y h = a0k o kk m y h:=by
 cases h with
 | ref id n=>simp only [a0k];rw [ho id b8o]
 | _=>rfl
def a3g {v:Operand} (ho:∀ k ∈ ck e [x],o' k = o k):j6 E o' e t x i v = j6 E o e t x i v:=by
 unfold j6
 cases E t with
 | none=>rfl
 | some ii =>
  dsimp only;cases ii.k <;> try rfl
  rename_i kt et;dsimp only
  cases E kt with
  | none=>rfl
  | some ki =>
   dsimp only
   cases hex:e x with
   | none=>rfl
   | some r =>
    cases r with
    | tup l=>rfl
    | v cc =>
     cases cc with
     | agg l=>rfl
     | one h =>
      dsimp only;have:=fun kk m y=>aez (o:=o) (o':=o') (h:=h) (kk:=kk) (m:=m) (y:=y) (fun k hk=>ho k (dp hex b8l k hk));simp only [this]
def aee (hx:∀ x ∈ op.operands,e' x = e x) (ho:∀ k ∈ ck e op.operands.toList,o' k = o k):hs E o' e' op = hs E o e op:=by
 cases op <;> try rfl
 case mapUpdate t x i v =>
  show j6 E o' e' t x i v = j6 E o e t x i v;have h1:j6 E o' e' t x i v = j6 E o' e t x i v:=by unfold j6;rw [hx x b8m,hx i b8m,hx v b8m]
  rw [h1];refine a3g fun k hk=>ho k ?_;simp only [ck,Op.operands,b6h] at hk ⊢;exact b5o _ hk
 case insert t x i v =>
  show j6 E o' e' t x i v = j6 E o e t x i v;have h1:j6 E o' e' t x i v = j6 E o' e t x i v:=by unfold j6;rw [hx x b8m,hx i b8m,hx v b8m]
  rw [h1];refine a3g fun k hk=>ho k ?_;simp only [ck,Op.operands,b6h] at hk ⊢;exact b5o _ hk
 case store t addr v =>
  show iz E o' e' t addr v = iz E o e t addr v;have h1:iz E o' e' t addr v = iz E o' e t addr v:=by unfold iz;rw [hx addr b8m,hx v b8m]
  rw [h1];exact aak (by simpa [Op.operands] using ho)
def a3h (ho:∀ k ∈ h.ids,o' k = o k):tk o' id h = tk o id h:=by
 cases h with
 | p x =>
  cases x with
  | raw v =>
   cases v with
   | slice a n c=>cases n <;> rfl
   | _=>rfl
  | _=>rfl
 | ref id' n=>simp only [tk];rw [ho id' b8o]
 | _=>rfl
variable {wb:Bool}
def x5 {y:HV} (hid:o' id = o id) (ho:∀ k ∈ y.ids,o' k = o k):nb E o' id n wb el y = nb E o id n wb el y:=by
 simp only [nb];rw [hid,a3h ho]
def a5s (ho:∀ k ∈ h.ids,o' k = o k):a0l o' id h = a0l o id h:=by
 simp only [a0l];rw [a3h ho]
 cases h with
 | ref id' n=>simp only;rw [ho id' b8o]
 | _=>rfl
def acj {y:HV} (hid:o' id = o id) (ho:∀ k ∈ y.ids,o' k = o k):uq E o' id n el y = uq E o id n el y:=by
 simp only [uq];rw [hid,a5s ho]
def ajd {y:HV} (hid:o' id = o id) (ho:∀ k ∈ y.ids,o' k = o k):a4u E o' id n el y = a4u E o id n el y:=by
 simp only [a4u];rw [hid,a5s ho]
def afg {i k:Nat} {y:HV} (hid:o' id = o id):yl E o' el id n i k y = yl E o el id n i k y:=by
 unfold yl;rw [hid]
def aia {z:List Value} (ho:∀ k ∈ h.ids,o' k = o k):a81 o' z n h = a81 o z n h:=by
 cases h with
 | win id n i m=>simp only [a81];rw [ho id b8o]
 | _=>rfl
def af5 {hy hx:HV} (h1:∀ k ∈ hx.ids,o' k = o k) (h2:∀ k ∈ hy.ids,o' k = o k):th E o' id wb el hy hx = th E o id wb el hy hx:=by
 cases hx with
 | win id1 n i k =>
  simp only [th];exact afg (h1 id1 b8o)
 | pin id1 n ad cap =>
  simp only [th];rw [x5 (o:=o) (o':=o') (h1 id1 b8o) h2]
 | ref id1 n =>
  simp only [th];rw [x5 (o:=o) (o':=o') (h1 id1 b8o) h2,acj (o:=o) (o':=o') (h1 id1 b8o) h2,ajd (o:=o) (o':=o') (h1 id1 b8o) h2]
 | p px =>
  cases px with
  | sl n sz cl f =>
   cases cl with
   | false=>rfl
   | true =>
    simp only [th]
    cases E el with
    | none=>rfl
    | some ei =>
     dsimp only
     rw [x5 (o:=fun k=>if k = id then some (a6.arr false ei.size el n f) else o k) (o':=fun k=>if k = id then some (a6.arr false ei.size el n f) else o' k) b8l (fun k hk=>by
      try dsimp only
      split
      · rfl
      exact h2 k hk)]
  | _=>rfl
 | _=>rfl
def afw {x y:Option HR} (hx:∀ r,x = some r -> ∀ k ∈ r.ids,o' k = o k) (hy:∀ r,y = some r -> ∀ k ∈ r.ids,o' k = o k):
 a2n E o' id wb t x y = a2n E o id wb t x y:=by
 unfold a2n
 cases E t with
 | none=>rfl
 | some i =>
  dsimp only;cases i.k <;> try rfl
  rename_i el
  cases x with
  | none=>rfl
  | some rx =>
   cases rx with
   | tup l=>rfl
   | v cx =>
    cases cx with
    | agg l=>rfl
    | one hxv =>
     cases y with
     | none=>rfl
     | some ry =>
      cases ry with
      | tup l=>rfl
      | v cy =>
       cases cy with
       | agg l=>rfl
       | one hyv=>exact af5 (hx _ rfl) (hy _ rfl)
def amc (hx:∀ x ∈ op.operands,e' x = e x) (ho:∀ k ∈ ck e op.operands.toList,o' k = o k):hap E o' e' id wb op = hap E o e id wb op:=by
 cases op <;> try rfl
 case call c =>
  unfold hap;dsimp only;split
  · rename_i hc
    simp only [Op.operands,Call.operands,hc] at hx ho;have h1:∀ x ∈ c.args.toList,e' x = e x:=fun x hm=>hx x (by simpa using hm);have h2:∀ k ∈ ck e c.args.toList,o' k = o k:=fun k hk=>ho k (by simpa using hk);generalize c.args.toList = l at h1 h2;unfold a2g;split
    · rename_i x y t t' _
      split
      · rw [h1 x b8l,h1 y b8l]
        exact afw (fun r hr k hk=>h2 k (dp hr b8l k hk)) (fun r hr k hk=>h2 k (dp hr b8l k hk))
      rfl
    rfl
  · rename_i hc
    simp only [Op.operands,Call.operands,hc] at hx ho;have h1:∀ x ∈ c.args.toList,e' x = e x:=fun x hm=>hx x (by simpa using hm);have h2:∀ k ∈ ck e c.args.toList,o' k = o k:=fun k hk=>ho k (by simpa using hk);generalize c.args.toList = l at h1 h2;unfold up;split
    · rename_i x t _
      rw [h1 x b8l]
      cases E t with
      | none=>rfl
      | some ti =>
       dsimp only;cases ti.k <;> try rfl
       rename_i el;dsimp only
       cases E el with
       | none=>rfl
       | some ei =>
        dsimp only
        cases ei.zero with
        | none=>rfl
        | some z =>
         dsimp only;split
         · cases hex:e x with
           | none=>rfl
           | some r =>
            cases r with
            | tup l=>rfl
            | v cc =>
             cases cc with
             | agg l=>rfl
             | one hv=>exact aia fun k hk=>h2 k (dp hex b8l k hk)
         rfl
    rfl
  rfl
def a3f (ho:∀ k ∈ h.ids,o' k = o k):yt o' h = yt o h:=by
 cases h with
 | ref id n=>simp only [yt];rw [ho id b8o]
 | _=>rfl
end
end
end
end Go.Hx
