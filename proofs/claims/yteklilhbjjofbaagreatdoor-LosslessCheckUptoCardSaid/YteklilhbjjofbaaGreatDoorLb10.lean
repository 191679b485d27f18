/- A part of the proof: Hx11. -/
import Derived.Test.YteklilhbjjofbaaGreatDoorLb09
set_option linter.all false
namespace Go.Hx
section
open Go.RowKit
section
variable {E:Env} {ex:Bool} {o o':ar} {e e':Ev}
section
variable {x:Operand}
def d9 {r:HR} (hx:e x = some r):∀ {l:List Operand},x ∈ l -> ∀ k ∈ r.ids,k ∈ c3 e l
 | y :: l,hm,k,hk=>by
  rcases b2f.1 hm with rfl | hm
  · simp only [c3,hx];exact b2i _ hk
  simp only [c3];exact b2m _ (d9 hx hm k hk)
def lm:∀ {l:List Operand},(∀ x ∈ l,e' x = e x) -> c3 e' l = c3 e l
 | [],_=>rfl
 | x :: l,h=>by
  simp only [c3];rw [h x b5f,lm fun y hy=>h y (by simp [hy])]
def b5j {p:Prop} (h:p:=by simp [HV.ids]):p:=h
variable {h:HV}
def ub (ho:∀ k ∈ h.ids,o' k = o k):tgt o' h = tgt o h:=by
 cases h with
 | p x=>cases x <;> rfl
 | ref id n=>rfl
 | ptr id off=>simp only [tgt];rw [ho id b5j]
 | eptr id n i j=>simp only [tgt];rw [ho id b5j]
 | win id n i m=>rfl
 | clo g k caps=>rfl
 | row id i k=>rfl
 | rptr id i k r j=>simp only [tgt];rw [ho id b5j]
 | pin id n ad cap=>rfl
def vq {places:List (Nat × Nat)}:∀ {parts:List (Nat × Operand)} {cells:List HV},(∀ x ∈ parts.map (·.2),e' x = e x) -> fc e' places cells parts = fc e places cells parts
 | [],_,_=>rfl
 | (i,x) :: r,cells,h=>by
  have hx:=h x b5f;have ih:∀ cells,fc e' places cells r = fc e places cells r:=fun cells=>vq fun y hy=>h y (by simp at hy ⊢;exact .inr hy);simp only [fc,hx,ih]
def a1s:∀ {l:List Operand},(∀ x ∈ l,e' x = e x) -> ut e' l = ut e l
 | [],_=>rfl
 | x :: l,h=>by
  simp only [ut];rw [h x b5f,a1s fun y hy=>h y (by simp [hy])]
def a2d:∀ {l:List Operand},(∀ x ∈ l,e' x = e x) -> uc e' l = uc e l
 | [],_=>rfl
 | x :: l,h=>by
  simp only [uc];rw [h x b5f,a2d fun y hy=>h y (by simp [hy])]
def jb {x:Option Operand} (h:∀ y ∈ x.toList,e' y = e y):fj e' x = fj e x:=by
 cases x with
 | none=>rfl
 | some y=>simp only [fj];rw [h y b5f]
def a5l {b:Builtin} {args:List Operand} {tys:List TypeId} (h:∀ x ∈ args,e' x = e x):n5 E e' b args tys = n5 E e b args tys:=by
 unfold n5;split
 · rename_i x t r
   rw [h x b5f]
 · rename_i x y
   rw [h x b5f,h y b5f]
 · rename_i x y
   rw [h x b5f,h y b5f]
 rfl
def ag1 (ho:∀ k ∈ h.ids,o' k = o k):zi o' h = zi o h:=by
 cases h with
 | ref id n=>simp only [zi];rw [ho id b5j]
 | win id n i m=>simp only [zi];rw [ho id b5j]
 | row id i k=>simp only [zi];rw [ho id b5j]
 | _=>rfl
variable {n:Nat}
def agl {i:Int} (ho:∀ k ∈ h.ids,o' k = o k):a3t o' n i h = a3t o n i h:=by
 cases h with
 | ref id n=>simp only [a3t];rw [ho id b5j]
 | win id n i m=>simp only [a3t];rw [ho id b5j]
 | row id i k=>simp only [a3t];rw [ho id b5j]
 | p x=>cases x <;> rfl
 | _=>rfl
def abh {x y z:Option Int} (ho:∀ k ∈ h.ids,o' k = o k):sw o' n x y z h = sw o n x y z h:=by
 cases h with
 | ref id n=>simp only [sw];rw [ho id b5j]
 | win id n i m=>simp only [sw];rw [ho id b5j]
 | _=>rfl
def a7q {l:List Operand} {F:ar -> HV -> Option Out} {α:Type} {d:α} {G:Option Out -> α} (hF:∀ h:HV,(∀ k ∈ h.ids,o' k = o k) -> F o' h = F o h) (hl:x ∈ l) (ho:∀ k ∈ c3 e l,o' k = o k):
 (match e x with | some (.v (.one h))=>G (F o' h) | _=>d) = (match e x with | some (.v (.one h))=>G (F o h) | _=>d):=by
 cases hex:e x with
 | none=>rfl
 | some r =>
  cases r with
  | tup l=>rfl
  | v cc =>
   cases cc with
   | agg l=>rfl
   | one h =>
    dsimp only;rw [hF h fun k hk=>ho k (d9 hex hl k hk)]
def a75 {b:Builtin} {args:List Operand} {tys:List TypeId} (h:∀ x ∈ args,e' x = e x) (ho:∀ k ∈ c3 e args,o' k = o k):o7 E o' e' b args tys = o7 E o e b args tys:=by
 unfold o7;split
 · rename_i x t r
   rw [h x b5f]
   cases E t with
   | none=>rfl
   | some ti =>
    dsimp only;cases ti.k <;> try rfl
    exact a7q (G:=id) (F:=zi) (fun h hh=>ag1 hh) b5f ho
 rfl
def adt (ho:∀ k ∈ c3 e [x],o' k = o k):lw o' e x = lw o e x:=by
 unfold lw
 cases hex:e x with
 | none=>rfl
 | some r =>
  cases r with
  | tup l=>rfl
  | v cc =>
   cases cc with
   | agg l=>rfl
   | one h =>
    have:=ub (o:=o) (o':=o') (h:=h) (fun k hk=>ho k (d9 hex b5f k hk))
    cases h with
    | p x=>cases x <;> rfl
    | ref id n=>rfl
    | ptr id off=>dsimp only;rw [this]
    | eptr id n i j=>dsimp only;rw [this]
    | win id n i m=>rfl
    | clo g k caps=>rfl
    | row id i k=>rfl
    | rptr id i k r j=>dsimp only;rw [this]
    | pin id n ad cap=>rfl
variable {t:TypeId}
def ab3 (ho:∀ k ∈ c3 e [x],o' k = o k):j9 E o' e t x = j9 E o e t x:=by
 unfold j9
 cases E t with
 | none=>rfl
 | some i =>
  dsimp only
  cases hex:e x with
  | none=>rfl
  | some r =>
   cases r with
   | tup l=>rfl
   | v cc =>
    cases cc with
    | agg l=>rfl
    | one h =>
     dsimp only;rw [ub (o:=o) (o':=o') (h:=h) (fun k hk=>ho k (d9 hex b5f k hk))]
def a1p {k:Nat} (ho:∀ k ∈ c3 e [x],o' k = o k):dz E o' e t x k = dz E o e t x k:=by
 unfold dz
 cases E t with
 | none=>rfl
 | some i =>
  dsimp only;cases i.k <;> try rfl
  rename_i fs;dsimp only
  cases fs[k]? with
  | none=>rfl
  | some q =>
   obtain ⟨off,ft,bl⟩:=q;dsimp only
   cases E ft with
   | none=>rfl
   | some fi =>
    dsimp only
    cases hex:e x with
    | none=>rfl
    | some r =>
     cases r with
     | tup l=>rfl
     | v cc =>
      cases cc with
      | agg l=>rfl
      | one h =>
       dsimp only;rw [ub (o:=o) (o':=o') (h:=h) (fun k hk=>ho k (d9 hex b5f k hk))]
variable {el:TypeId} {i:Operand}
def a2p {len:Nat} (ho:∀ k ∈ c3 e [x],o' k = o k):jj E o' e len el x i = jj E o e len el x i:=by
 unfold jj
 cases E el with
 | none=>rfl
 | some ei =>
  dsimp only
  cases hex:e x with
  | none=>rfl
  | some r =>
   cases r with
   | tup l=>rfl
   | v cc =>
    cases cc with
    | agg l=>rfl
    | one h =>
     dsimp only;rw [ub (o:=o) (o':=o') (h:=h) (fun k hk=>ho k (d9 hex b5f k hk))]
def a1n (ho:∀ k ∈ c3 e [x],o' k = o k):eo E o' e t x i = eo E o e t x i:=by
 unfold eo
 cases E t with
 | none=>rfl
 | some ii =>
  dsimp only;cases ii.k <;> try rfl
  case array len el=>exact a2p ho
  rename_i el;dsimp only
  cases E el with
  | none=>rfl
  | some ei =>
   dsimp only
   cases hex:e x with
   | none=>rfl
   | some r =>
    cases r with
    | tup l=>rfl
    | v cc =>
     cases cc with
     | agg l=>rfl
     | one h =>
      dsimp only;have:=fun iv=>agl (o:=o) (o':=o') (h:=h) (n:=ei.size) (i:=iv) (fun k hk=>ho k (d9 hex b5f k hk));simp only [this]
def ad6 {kk:KK} {m:MK} {z:Value} {cm:Bool} (ho:∀ k ∈ h.ids,o' k = o k):a5g o' kk m z cm h = a5g o kk m z cm h:=by
 cases h with
 | ref id n=>simp only [a5g];rw [ho id b5j]
 | p y=>cases y <;> rfl
 | _=>rfl
def a6d {cm:Bool} (ho:∀ k ∈ c3 e [x],o' k = o k):gp E o' e t x i cm = gp E o e t x i cm:=by
 unfold gp
 cases E t with
 | none=>rfl
 | some ii =>
  dsimp only;cases ii.k <;> try rfl
  rename_i kt et;dsimp only
  cases a8x E kt et with
  | none=>rfl
  | some q =>
   obtain ⟨kk,z⟩:=q;dsimp only
   cases hex:e x with
   | none=>rfl
   | some r =>
    cases r with
    | tup l=>rfl
    | v cc =>
     cases cc with
     | agg l=>rfl
     | one h =>
      dsimp only;have:=fun m=>ad6 (o:=o) (o':=o') (h:=h) (kk:=kk) (m:=m) (z:=z) (cm:=cm) (fun k hk=>ho k (d9 hex b5f k hk));simp only [this]
def a8s {op:BinOp} (ho:∀ k ∈ h.ids,o' k = o k):x4 o' op h = x4 o op h:=by
 cases h with
 | ptr id n=>simp only [x4];rw [ho id b5j]
 | p x=>cases x with
  | raw v=>cases v <;> rfl
  | _=>rfl
 | _=>rfl
def a6b {op:BinOp} {y:Operand} (ho:∀ k ∈ c3 e [x],o' k = o k):gr E o' e op t x y = gr E o e op t x y:=by
 unfold gr;split <;> try rfl
 cases E t with
 | none=>rfl
 | some ii =>
  dsimp only;cases ii.k <;> try rfl
  dsimp only
  cases hex:e x with
  | none=>rfl
  | some r =>
   cases r with
   | tup l=>rfl
   | v cc =>
    cases cc with
    | agg l=>rfl
    | one h=>exact a8s (fun k hk=>ho k (d9 hex b5f k hk))
def b5g {p:Prop} (h:p:=by simp [Op.operands]):p:=h
variable {op:Op}
def amm (hx:∀ x ∈ op.operands,e' x = e x) (ho:∀ k ∈ c3 e op.operands.toList,o' k = o k):hq E ex o' e' op = hq E ex o e op:=by
 cases op <;> try rfl
 case move x=>show Option.map _ (e' x) = Option.map _ (e x);rw [hx x b5g]
 case assign x=>show Option.map _ (e' x) = Option.map _ (e x);rw [hx x b5g]
 case pick c x y =>
  show wt e' c x y = wt e c x y;unfold wt;rw [hx c b5g,hx x b5g,hx y b5g]
 case nilCheck x =>
  show lw o' e' x = lw o e x;have h1:lw o' e' x = lw o' e x:=by unfold lw;rw [hx x b5g]
  rw [h1];exact adt (by simpa [Op.operands] using ho)
 case load t x =>
  show j9 E o' e' t x = j9 E o e t x;have h1:j9 E o' e' t x = j9 E o' e t x:=by unfold j9;rw [hx x b5g]
  rw [h1];exact ab3 (by simpa [Op.operands] using ho)
 case fieldAddr t x k =>
  show dz E o' e' t x k = dz E o e t x k;have h1:dz E o' e' t x k = dz E o' e t x k:=by unfold dz;rw [hx x b5g]
  rw [h1];exact a1p (by simpa [Op.operands] using ho)
 case field t x k =>
  show sh E e' t x k = sh E e t x k;unfold sh;rw [hx x b5g]
 case indexAddr t x i =>
  show eo E o' e' t x i = eo E o e t x i;have h1:eo E o' e' t x i = eo E o' e t x i:=by unfold eo jj;rw [hx x b5g,hx i b5g]
  rw [h1];refine a1n fun k hk=>ho k ?_;simp only [c3,Op.operands,b3b] at hk ⊢;exact b2i _ hk
 case lookup t x i cm =>
  show gp E o' e' t x i cm = gp E o e t x i cm;have h1:gp E o' e' t x i cm = gp E o' e t x i cm:=by unfold gp;rw [hx x b5g,hx i b5g]
  rw [h1];refine a6d fun k hk=>ho k ?_;simp only [c3,Op.operands,b3b] at hk ⊢;exact b2i _ hk
 case index t x i =>
  show s6 E e' t x i = s6 E e t x i;unfold s6;rw [hx x b5g,hx i b5g]
 case binOp op t x y ty =>
  have h1:a0z E ex e' op t x y = a0z E ex e op t x y:=by
   unfold a0z;rw [hx x b5g,hx y b5g]
  have h2:o5 E e' op t x y = o5 E e op t x y:=by
   unfold o5;rw [hx x b5g]
  have h3:gr E o' e' op t x y = gr E o e op t x y:=by
   have h1:gr E o' e' op t x y = gr E o' e op t x y:=by unfold gr;rw [hx x b5g]
   rw [h1];refine a6b fun k hk=>ho k ?_;simp only [c3,Op.operands,b3b] at hk ⊢;exact b2i _ hk
  simp only [hq];rw [h1,h2,h3]
 case unOp op t x =>
  show a6z ex e' op x = a6z ex e op x;unfold a6z;rw [hx x b5g]
 case convert src dst x =>
  show wc E ex e' src dst x = wc E ex e src dst x;unfold wc;rw [hx x b5g]
 case extract x i =>
  show n7 e' x i = n7 e x i;unfold n7;rw [hx x b5g]
 case slice t x lo hi mx =>
  have e0:=hx x b5g;have e1:=jb (e:=e) (e':=e') (x:=lo) (fun y hy=>hx y (by simp [Op.operands];simp at hy;simp [hy]));have e2:=jb (e:=e) (e':=e') (x:=hi) (fun y hy=>hx y (by simp [Op.operands];simp at hy;simp [hy]));have e3:=jb (e:=e) (e':=e') (x:=mx) (fun y hy=>hx y (by simp [Op.operands];simp at hy;simp [hy]))
  have h1:i2 E e' t x lo hi mx = i2 E e t x lo hi mx:=by
   unfold i2;rw [e0,e1,e2,e3]
  have h2:a1k E o' e' t x lo hi mx = a1k E o e t x lo hi mx:=by
   unfold a1k;rw [e0,e1,e2,e3]
   cases E t with
   | none=>rfl
   | some ti =>
    dsimp only;cases ti.k <;> try rfl
    rename_i el;dsimp only
    cases E el with
    | none=>rfl
    | some ei =>
     dsimp only
     cases fj e lo with
     | none=>rfl
     | some l =>
      cases fj e hi with
      | none=>rfl
      | some hh =>
       cases fj e mx with
       | none=>rfl
       | some m =>
        dsimp only;exact a7q (G:=id) (F:=fun o h=>sw o ei.size l hh m h) (fun h hh=>abh hh) (l:=(Op.slice t x lo hi mx).operands.toList) b5g ho
  simp only [hq];rw [h1,h2]
 case makeFunc fn first caps =>
  show wd e' fn first.toList caps.toList = wd e fn first.toList caps.toList
  unfold wd;rw [a1s (l:=caps.toList) (fun y hy=>hx y (by simp [Op.operands];simp at hy;exact .inr hy)),a2d (l:=caps.toList) (fun y hy=>hx y (by simp [Op.operands];simp at hy;exact .inr hy))];split
  · rfl
  · rename_i f x hf
    rw [hx x (by simp [Op.operands];left;rw [<- Array.mem_toList_iff,hf];simp)]
  rfl
 case build t parts =>
  show sd E e' t parts.toList = sd E e t parts.toList;have hf:∀ places cells,fc e' places cells parts.toList = fc e places cells parts.toList:=fun places cells=>vq fun x hm=>hx x (by simpa [Op.operands] using hm);unfold sd;simp only [hf]
 case call c =>
  simp only [hq]
  cases hc:c.callee with
  | value f=>rfl
  | invoke r m=>rfl
  | builtin b =>
   simp only [Op.operands,Call.operands,hc] at hx ho;have h1:∀ x ∈ c.args.toList,e' x = e x:=fun x hm=>hx x (by simpa using hm);have h2:∀ k ∈ c3 e c.args.toList,o' k = o k:=fun k hk=>ho k (by simpa using hk);dsimp only;rw [a5l h1,a75 h1 h2]
variable {id:Nat}
def alb (hx:∀ x ∈ op.operands,e' x = e x):ha E e' id op = ha E e id op:=by
 cases op <;> simp only [ha] <;> simp only [Op.operands] at hx
 case box t x=>rw [hx x b5f]
 case buildSlice t n parts =>
  have hf:∀ sz cells,a0q e' sz n parts.toList cells = a0q e sz n parts.toList cells:=fun sz cells=>by
   unfold a0q;exact vq fun x hm=>hx x (by simpa using hm)
  simp only [hf]
 case makeSlice t l c=>rw [hx l b5f,hx c b5f]
def a8n {y:Operand} (ho:∀ k ∈ c3 e [x,y],o' k = o k):i6 E o' e t x y = i6 E o e t x y:=by
 unfold i6
 cases E t with
 | none=>rfl
 | some i =>
  cases hv:e y with
  | none=>rfl
  | some rv =>
   cases rv with
   | tup l=>rfl
   | v cv =>
    cases hex:e x with
    | none=>rfl
    | some r =>
     cases r with
     | tup l=>rfl
     | v cc =>
      cases cc with
      | agg l=>rfl
      | one h =>
       cases h with
       | p x=>cases x <;> rfl
       | ref id n=>rfl
       | ptr id off=>dsimp only;rw [ho id (d9 hex b5f id (by simp [HR.ids,HC.ids,HV.ids]))]
       | eptr id n r j=>dsimp only;rw [ho id (d9 hex b5f id (by simp [HR.ids,HC.ids,HV.ids]))]
       | win id n i m=>rfl
       | clo g k caps=>rfl
       | row id i k=>rfl
       | rptr id i k r j=>dsimp only;rw [ho id (d9 hex b5f id (by simp [HR.ids,HC.ids,HV.ids]))]
       | pin id n ad cap=>rfl
def acu {kk:KK} {m:MK} {y:PV} (ho:∀ k ∈ h.ids,o' k = o k):a03 o' kk m y h = a03 o kk m y h:=by
 cases h with
 | ref id n=>simp only [a03];rw [ho id b5j]
 | _=>rfl
def a21 {v:Operand} (ho:∀ k ∈ c3 e [x],o' k = o k):ic E o' e t x i v = ic E o e t x i v:=by
 unfold ic
 cases E t with
 | none=>rfl
 | some ii =>
  dsimp only;cases ii.k <;> try rfl
  rename_i kt et;dsimp only
  cases E kt with
  | none=>rfl
  | some ki =>
   dsimp only
   cases hex:e x with
   | none=>rfl
   | some r =>
    cases r with
    | tup l=>rfl
    | v cc =>
     cases cc with
     | agg l=>rfl
     | one h =>
      dsimp only;have:=fun kk m y=>acu (o:=o) (o':=o') (h:=h) (kk:=kk) (m:=m) (y:=y) (fun k hk=>ho k (d9 hex b5f k hk));simp only [this]
def a9f (hx:∀ x ∈ op.operands,e' x = e x) (ho:∀ k ∈ c3 e op.operands.toList,o' k = o k):hs E o' e' op = hs E o e op:=by
 cases op <;> try rfl
 case mapUpdate t x i v =>
  show ic E o' e' t x i v = ic E o e t x i v;have h1:ic E o' e' t x i v = ic E o' e t x i v:=by unfold ic;rw [hx x b5g,hx i b5g,hx v b5g]
  rw [h1];refine a21 fun k hk=>ho k ?_;simp only [c3,Op.operands,b3b] at hk ⊢;exact b2i _ hk
 case insert t x i v =>
  show ic E o' e' t x i v = ic E o e t x i v;have h1:ic E o' e' t x i v = ic E o' e t x i v:=by unfold ic;rw [hx x b5g,hx i b5g,hx v b5g]
  rw [h1];refine a21 fun k hk=>ho k ?_;simp only [c3,Op.operands,b3b] at hk ⊢;exact b2i _ hk
 case store t addr v =>
  show i6 E o' e' t addr v = i6 E o e t addr v;have h1:i6 E o' e' t addr v = i6 E o' e t addr v:=by unfold i6;rw [hx addr b5g,hx v b5g]
  rw [h1];exact a8n (by simpa [Op.operands] using ho)
def a1y (ho:∀ k ∈ h.ids,o' k = o k):rj o' id h = rj o id h:=by
 cases h with
 | p x =>
  cases x with
  | raw v =>
   cases v with
   | slice a n c=>cases n <;> rfl
   | _=>rfl
  | _=>rfl
 | ref id' n=>simp only [rj];rw [ho id' b5j]
 | _=>rfl
variable {wb:Bool}
def vi {y:HV} (hid:o' id = o id) (ho:∀ k ∈ y.ids,o' k = o k):m7 E o' id n wb el y = m7 E o id n wb el y:=by
 simp only [m7];rw [hid,a1y ho]
def a47 (ho:∀ k ∈ h.ids,o' k = o k):zw o' id h = zw o id h:=by
 simp only [zw];rw [a1y ho]
 cases h with
 | ref id' n=>simp only;rw [ho id' b5j]
 | _=>rfl
def aby {y:HV} (hid:o' id = o id) (ho:∀ k ∈ y.ids,o' k = o k):ta E o' id n el y = ta E o id n el y:=by
 simp only [ta];rw [hid,a47 ho]
def ahm {y:HV} (hid:o' id = o id) (ho:∀ k ∈ y.ids,o' k = o k):a3h E o' id n el y = a3h E o id n el y:=by
 simp only [a3h];rw [hid,a47 ho]
def adr {i k:Nat} {y:HV} (hid:o' id = o id):y7 E o' el id n i k y = y7 E o el id n i k y:=by
 unfold y7;rw [hid]
def agm {z:List Value} (ho:∀ k ∈ h.ids,o' k = o k):a6f o' z n h = a6f o z n h:=by
 cases h with
 | win id n i m=>simp only [a6f];rw [ho id b5j]
 | _=>rfl
def adp {hy hx:HV} (h1:∀ k ∈ hx.ids,o' k = o k) (h2:∀ k ∈ hy.ids,o' k = o k):s4 E o' id wb el hy hx = s4 E o id wb el hy hx:=by
 cases hx with
 | win id1 n i k =>
  simp only [s4];exact adr (h1 id1 b5j)
 | pin id1 n ad cap =>
  simp only [s4];rw [vi (o:=o) (o':=o') (h1 id1 b5j) h2]
 | ref id1 n =>
  simp only [s4];rw [vi (o:=o) (o':=o') (h1 id1 b5j) h2,aby (o:=o) (o':=o') (h1 id1 b5j) h2,ahm (o:=o) (o':=o') (h1 id1 b5j) h2]
 | p px =>
  cases px with
  | sl n sz cl f =>
   cases cl with
   | false=>rfl
   | true =>
    simp only [s4]
    cases E el with
    | none=>rfl
    | some ei =>
     dsimp only
     rw [vi (o:=fun k=>if k = id then some (a6.arr false ei.size el n f) else o k) (o':=fun k=>if k = id then some (a6.arr false ei.size el n f) else o' k) b5f (fun k hk=>by
      try dsimp only
      split
      · rfl
      exact h2 k hk)]
  | _=>rfl
 | _=>rfl
def ada {x y:Option HR} (hx:∀ r,x = some r -> ∀ k ∈ r.ids,o' k = o k) (hy:∀ r,y = some r -> ∀ k ∈ r.ids,o' k = o k):
 a18 E o' id wb t x y = a18 E o id wb t x y:=by
 unfold a18
 cases E t with
 | none=>rfl
 | some i =>
  dsimp only;cases i.k <;> try rfl
  rename_i el
  cases x with
  | none=>rfl
  | some rx =>
   cases rx with
   | tup l=>rfl
   | v cx =>
    cases cx with
    | agg l=>rfl
    | one hxv =>
     cases y with
     | none=>rfl
     | some ry =>
      cases ry with
      | tup l=>rfl
      | v cy =>
       cases cy with
       | agg l=>rfl
       | one hyv=>exact adp (hx _ rfl) (hy _ rfl)
def ajq (hx:∀ x ∈ op.operands,e' x = e x) (ho:∀ k ∈ c3 e op.operands.toList,o' k = o k):hap E o' e' id wb op = hap E o e id wb op:=by
 cases op <;> try rfl
 case call c =>
  unfold hap;dsimp only;split
  · rename_i hc
    simp only [Op.operands,Call.operands,hc] at hx ho;have h1:∀ x ∈ c.args.toList,e' x = e x:=fun x hm=>hx x (by simpa using hm);have h2:∀ k ∈ c3 e c.args.toList,o' k = o k:=fun k hk=>ho k (by simpa using hk);generalize c.args.toList = l at h1 h2;unfold a0u;split
    · rename_i x y t t' _
      split
      · rw [h1 x b5f,h1 y b5f]
        exact ada (fun r hr k hk=>h2 k (d9 hr b5f k hk)) (fun r hr k hk=>h2 k (d9 hr b5f k hk))
      rfl
    rfl
  · rename_i hc
    simp only [Op.operands,Call.operands,hc] at hx ho;have h1:∀ x ∈ c.args.toList,e' x = e x:=fun x hm=>hx x (by simpa using hm);have h2:∀ k ∈ c3 e c.args.toList,o' k = o k:=fun k hk=>ho k (by simpa using hk);generalize c.args.toList = l at h1 h2;unfold sq;split
    · rename_i x t _
      rw [h1 x b5f]
      cases E t with
      | none=>rfl
      | some ti =>
       dsimp only;cases ti.k <;> try rfl
       rename_i el;dsimp only
       cases E el with
       | none=>rfl
       | some ei =>
        dsimp only
        cases ei.zero with
        | none=>rfl
        | some z =>
         dsimp only;split
         · cases hex:e x with
           | none=>rfl
           | some r =>
            cases r with
            | tup l=>rfl
            | v cc =>
             cases cc with
             | agg l=>rfl
             | one hv=>exact agm fun k hk=>h2 k (d9 hex b5f k hk)
         rfl
    rfl
  rfl
def a2e (ho:∀ k ∈ h.ids,o' k = o k):xb o' h = xb o h:=by
 cases h with
 | ref id n=>simp only [xb];rw [ho id b5j]
 | _=>rfl
end
end
end
end Go.Hx
