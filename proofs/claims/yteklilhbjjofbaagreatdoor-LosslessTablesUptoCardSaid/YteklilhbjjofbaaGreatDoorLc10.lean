/- A part of the proof: Hx11. -/
import Derived.Test.YteklilhbjjofbaaGreatDoorLc09
set_option linter.all false
namespace Go.Hx
section
open Go.RowKit
section
variable {E:Env} {ex:Bool} {o o':al} {e e':Ev}
section
variable {x:Operand}
def cr {r:HR} (hx:e x = some r):∀ {l:List Operand},x ∈ l -> ∀ k ∈ r.ids,k ∈ bt e l
 | y :: l,hm,k,hk=>by
  rcases b2z.1 hm with rfl | hm
  · simp only [bt,hx];exact b32 _ hk
  simp only [bt];exact b37 _ (cr hx hm k hk)
def mb:∀ {l:List Operand},(∀ x ∈ l,e' x = e x) -> bt e' l = bt e l
 | [],_=>rfl
 | x :: l,h=>by
  simp only [bt];rw [h x b5v,mb fun y hy=>h y (by simp [hy])]
def b5y {p:Prop} (h:p:=by simp [HV.ids]):p:=h
variable {h:HV}
def uh (ho:∀ k ∈ h.ids,o' k = o k):tgt o' h = tgt o h:=by
 cases h with
 | p x=>cases x <;> rfl
 | ref id n=>rfl
 | ptr id off=>simp only [tgt];rw [ho id b5y]
 | eptr id n i j=>simp only [tgt];rw [ho id b5y]
 | win id n i m=>rfl
 | clo g k caps=>rfl
 | row id i k=>rfl
 | rptr id i k r j=>simp only [tgt];rw [ho id b5y]
 | pin id n ad cap=>rfl
def vl {places:List (Nat × Nat)}:∀ {parts:List (Nat × Operand)} {cells:List HV},(∀ x ∈ parts.map (·.2),e' x = e x) -> ep e' places cells parts = ep e places cells parts
 | [],_,_=>rfl
 | (i,x) :: r,cells,h=>by
  have hx:=h x b5v;have ih:∀ cells,ep e' places cells r = ep e places cells r:=fun cells=>vl fun y hy=>h y (by simp at hy ⊢;exact .inr hy);simp only [ep,hx,ih]
def a1g:∀ {l:List Operand},(∀ x ∈ l,e' x = e x) -> ug e' l = ug e l
 | [],_=>rfl
 | x :: l,h=>by
  simp only [ug];rw [h x b5v,a1g fun y hy=>h y (by simp [hy])]
def a1e:∀ {l:List Operand},(∀ x ∈ l,e' x = e x) -> tx e' l = tx e l
 | [],_=>rfl
 | x :: l,h=>by
  simp only [tx];rw [h x b5v,a1e fun y hy=>h y (by simp [hy])]
def j8 {x:Option Operand} (h:∀ y ∈ x.toList,e' y = e y):fb e' x = fb e x:=by
 cases x with
 | none=>rfl
 | some y=>simp only [fb];rw [h y b5v]
def a3w {b:Builtin} {args:List Operand} {tys:List TypeId} (h:∀ x ∈ args,e' x = e x):nf E e' b args tys = nf E e b args tys:=by
 unfold nf;split
 · rename_i x t r
   rw [h x b5v]
 · rename_i x y
   rw [h x b5v,h y b5v]
 · rename_i x y
   rw [h x b5v,h y b5v]
 rfl
def agw (ho:∀ k ∈ h.ids,o' k = o k):yj o' h = yj o h:=by
 cases h with
 | ref id n=>simp only [yj];rw [ho id b5y]
 | win id n i m=>simp only [yj];rw [ho id b5y]
 | row id i k=>simp only [yj];rw [ho id b5y]
 | _=>rfl
variable {n:Nat}
def agp {i:Int} (ho:∀ k ∈ h.ids,o' k = o k):a31 o' n i h = a31 o n i h:=by
 cases h with
 | ref id n=>simp only [a31];rw [ho id b5y]
 | win id n i m=>simp only [a31];rw [ho id b5y]
 | row id i k=>simp only [a31];rw [ho id b5y]
 | p x=>cases x <;> rfl
 | _=>rfl
def ab9 {x y z:Option Int} (ho:∀ k ∈ h.ids,o' k = o k):tn o' n x y z h = tn o n x y z h:=by
 cases h with
 | ref id n=>simp only [tn];rw [ho id b5y]
 | win id n i m=>simp only [tn];rw [ho id b5y]
 | _=>rfl
def a7r {l:List Operand} {F:al -> HV -> Option Out} {α:Type} {d:α} {G:Option Out -> α} (hF:∀ h:HV,(∀ k ∈ h.ids,o' k = o k) -> F o' h = F o h) (hl:x ∈ l) (ho:∀ k ∈ bt e l,o' k = o k):
 (match e x with | some (.v (.one h))=>G (F o' h) | _=>d) = (match e x with | some (.v (.one h))=>G (F o h) | _=>d):=by
 cases hex:e x with
 | none=>rfl
 | some r =>
  cases r with
  | tup l=>rfl
  | v cc =>
   cases cc with
   | agg l=>rfl
   | one h =>
    dsimp only;rw [hF h fun k hk=>ho k (cr hex hl k hk)]
def a59 {b:Builtin} {args:List Operand} {tys:List TypeId} (h:∀ x ∈ args,e' x = e x) (ho:∀ k ∈ bt e args,o' k = o k):pf E o' e' b args tys = pf E o e b args tys:=by
 unfold pf;split
 · rename_i x t r
   rw [h x b5v]
   cases E t with
   | none=>rfl
   | some ti =>
    dsimp only;cases ti.k <;> try rfl
    exact a7r (G:=id) (F:=yj) (fun h hh=>agw hh) b5v ho
 rfl
def ad0 (ho:∀ k ∈ bt e [x],o' k = o k):ml o' e x = ml o e x:=by
 unfold ml
 cases hex:e x with
 | none=>rfl
 | some r =>
  cases r with
  | tup l=>rfl
  | v cc =>
   cases cc with
   | agg l=>rfl
   | one h =>
    have:=uh (o:=o) (o':=o') (h:=h) (fun k hk=>ho k (cr hex b5v k hk))
    cases h with
    | p x=>cases x <;> rfl
    | ref id n=>rfl
    | ptr id off=>dsimp only;rw [this]
    | eptr id n i j=>dsimp only;rw [this]
    | win id n i m=>rfl
    | clo g k caps=>rfl
    | row id i k=>rfl
    | rptr id i k r j=>dsimp only;rw [this]
    | pin id n ad cap=>rfl
variable {t:TypeId}
def ab2 (ho:∀ k ∈ bt e [x],o' k = o k):jb E o' e t x = jb E o e t x:=by
 unfold jb
 cases E t with
 | none=>rfl
 | some i =>
  dsimp only
  cases hex:e x with
  | none=>rfl
  | some r =>
   cases r with
   | tup l=>rfl
   | v cc =>
    cases cc with
    | agg l=>rfl
    | one h =>
     dsimp only;rw [uh (o:=o) (o':=o') (h:=h) (fun k hk=>ho k (cr hex b5v k hk))]
def a15 {k:Nat} (ho:∀ k ∈ bt e [x],o' k = o k):dh E o' e t x k = dh E o e t x k:=by
 unfold dh
 cases E t with
 | none=>rfl
 | some i =>
  dsimp only;cases i.k <;> try rfl
  rename_i fs;dsimp only
  cases fs[k]? with
  | none=>rfl
  | some q =>
   obtain ⟨off,ft,bl⟩:=q;dsimp only
   cases E ft with
   | none=>rfl
   | some fi =>
    dsimp only
    cases hex:e x with
    | none=>rfl
    | some r =>
     cases r with
     | tup l=>rfl
     | v cc =>
      cases cc with
      | agg l=>rfl
      | one h =>
       dsimp only;rw [uh (o:=o) (o':=o') (h:=h) (fun k hk=>ho k (cr hex b5v k hk))]
variable {el:TypeId} {i:Operand}
def a29 {len:Nat} (ho:∀ k ∈ bt e [x],o' k = o k):jo E o' e len el x i = jo E o e len el x i:=by
 unfold jo
 cases E el with
 | none=>rfl
 | some ei =>
  dsimp only
  cases hex:e x with
  | none=>rfl
  | some r =>
   cases r with
   | tup l=>rfl
   | v cc =>
    cases cc with
    | agg l=>rfl
    | one h =>
     dsimp only;rw [uh (o:=o) (o':=o') (h:=h) (fun k hk=>ho k (cr hex b5v k hk))]
def a17 (ho:∀ k ∈ bt e [x],o' k = o k):dw E o' e t x i = dw E o e t x i:=by
 unfold dw
 cases E t with
 | none=>rfl
 | some ii =>
  dsimp only;cases ii.k <;> try rfl
  case array len el=>exact a29 ho
  rename_i el;dsimp only
  cases E el with
  | none=>rfl
  | some ei =>
   dsimp only
   cases hex:e x with
   | none=>rfl
   | some r =>
    cases r with
    | tup l=>rfl
    | v cc =>
     cases cc with
     | agg l=>rfl
     | one h =>
      dsimp only;have:=fun iv=>agp (o:=o) (o':=o') (h:=h) (n:=ei.size) (i:=iv) (fun k hk=>ho k (cr hex b5v k hk));simp only [this]
def acz {kk:KK} {m:MK} {z:Value} {cm:Bool} (ho:∀ k ∈ h.ids,o' k = o k):a3z o' kk m z cm h = a3z o kk m z cm h:=by
 cases h with
 | ref id n=>simp only [a3z];rw [ho id b5y]
 | p y=>cases y <;> rfl
 | _=>rfl
def a5k {cm:Bool} (ho:∀ k ∈ bt e [x],o' k = o k):gq E o' e t x i cm = gq E o e t x i cm:=by
 unfold gq
 cases E t with
 | none=>rfl
 | some ii =>
  dsimp only;cases ii.k <;> try rfl
  rename_i kt et;dsimp only
  cases a8i E kt et with
  | none=>rfl
  | some q =>
   obtain ⟨kk,z⟩:=q;dsimp only
   cases hex:e x with
   | none=>rfl
   | some r =>
    cases r with
    | tup l=>rfl
    | v cc =>
     cases cc with
     | agg l=>rfl
     | one h =>
      dsimp only;have:=fun m=>acz (o:=o) (o':=o') (h:=h) (kk:=kk) (m:=m) (z:=z) (cm:=cm) (fun k hk=>ho k (cr hex b5v k hk));simp only [this]
def a84 {op:BinOp} (ho:∀ k ∈ h.ids,o' k = o k):wc o' op h = wc o op h:=by
 cases h with
 | ptr id n=>simp only [wc];rw [ho id b5y]
 | p x=>cases x with
  | raw v=>cases v <;> rfl
  | _=>rfl
 | _=>rfl
def a6h {op:BinOp} {y:Operand} (ho:∀ k ∈ bt e [x],o' k = o k):go E o' e op t x y = go E o e op t x y:=by
 unfold go;split <;> try rfl
 cases E t with
 | none=>rfl
 | some ii =>
  dsimp only;cases ii.k <;> try rfl
  dsimp only
  cases hex:e x with
  | none=>rfl
  | some r =>
   cases r with
   | tup l=>rfl
   | v cc =>
    cases cc with
    | agg l=>rfl
    | one h=>exact a84 (fun k hk=>ho k (cr hex b5v k hk))
def b5w {p:Prop} (h:p:=by simp [Op.operands]):p:=h
variable {op:Op}
def an9 (hx:∀ x ∈ op.operands,e' x = e x) (ho:∀ k ∈ bt e op.operands.toList,o' k = o k):hq E ex o' e' op = hq E ex o e op:=by
 cases op <;> try rfl
 case move x=>show Option.map _ (e' x) = Option.map _ (e x);rw [hx x b5w]
 case assign x=>show Option.map _ (e' x) = Option.map _ (e x);rw [hx x b5w]
 case pick c x y =>
  show w3 e' c x y = w3 e c x y;unfold w3;rw [hx c b5w,hx x b5w,hx y b5w]
 case nilCheck x =>
  show ml o' e' x = ml o e x;have h1:ml o' e' x = ml o' e x:=by unfold ml;rw [hx x b5w]
  rw [h1];exact ad0 (by simpa [Op.operands] using ho)
 case load t x =>
  show jb E o' e' t x = jb E o e t x;have h1:jb E o' e' t x = jb E o' e t x:=by unfold jb;rw [hx x b5w]
  rw [h1];exact ab2 (by simpa [Op.operands] using ho)
 case fieldAddr t x k =>
  show dh E o' e' t x k = dh E o e t x k;have h1:dh E o' e' t x k = dh E o' e t x k:=by unfold dh;rw [hx x b5w]
  rw [h1];exact a15 (by simpa [Op.operands] using ho)
 case field t x k =>
  show s5 E e' t x k = s5 E e t x k;unfold s5;rw [hx x b5w]
 case indexAddr t x i =>
  show dw E o' e' t x i = dw E o e t x i;have h1:dw E o' e' t x i = dw E o' e t x i:=by unfold dw jo;rw [hx x b5w,hx i b5w]
  rw [h1];refine a17 fun k hk=>ho k ?_;simp only [bt,Op.operands,b3u] at hk ⊢;exact b32 _ hk
 case lookup t x i cm =>
  show gq E o' e' t x i cm = gq E o e t x i cm;have h1:gq E o' e' t x i cm = gq E o' e t x i cm:=by unfold gq;rw [hx x b5w,hx i b5w]
  rw [h1];refine a5k fun k hk=>ho k ?_;simp only [bt,Op.operands,b3u] at hk ⊢;exact b32 _ hk
 case index t x i =>
  show s6 E e' t x i = s6 E e t x i;unfold s6;rw [hx x b5w,hx i b5w]
 case binOp op t x y ty =>
  have h1:a0r E ex e' op t x y = a0r E ex e op t x y:=by
   unfold a0r;rw [hx x b5w,hx y b5w]
  have h2:p7 E e' op t x y = p7 E e op t x y:=by
   unfold p7;rw [hx x b5w]
  have h3:go E o' e' op t x y = go E o e op t x y:=by
   have h1:go E o' e' op t x y = go E o' e op t x y:=by unfold go;rw [hx x b5w]
   rw [h1];refine a6h fun k hk=>ho k ?_;simp only [bt,Op.operands,b3u] at hk ⊢;exact b32 _ hk
  simp only [hq];rw [h1,h2,h3]
 case unOp op t x =>
  show a62 ex e' op x = a62 ex e op x;unfold a62;rw [hx x b5w]
 case convert src dst x =>
  show wj E ex e' src dst x = wj E ex e src dst x;unfold wj;rw [hx x b5w]
 case extract x i =>
  show ne e' x i = ne e x i;unfold ne;rw [hx x b5w]
 case slice t x lo hi mx =>
  have e0:=hx x b5w;have e1:=j8 (e:=e) (e':=e') (x:=lo) (fun y hy=>hx y (by simp [Op.operands];simp at hy;simp [hy]));have e2:=j8 (e:=e) (e':=e') (x:=hi) (fun y hy=>hx y (by simp [Op.operands];simp at hy;simp [hy]));have e3:=j8 (e:=e) (e':=e') (x:=mx) (fun y hy=>hx y (by simp [Op.operands];simp at hy;simp [hy]))
  have h1:i6 E e' t x lo hi mx = i6 E e t x lo hi mx:=by
   unfold i6;rw [e0,e1,e2,e3]
  have h2:a0a E o' e' t x lo hi mx = a0a E o e t x lo hi mx:=by
   unfold a0a;rw [e0,e1,e2,e3]
   cases E t with
   | none=>rfl
   | some ti =>
    dsimp only;cases ti.k <;> try rfl
    rename_i el;dsimp only
    cases E el with
    | none=>rfl
    | some ei =>
     dsimp only
     cases fb e lo with
     | none=>rfl
     | some l =>
      cases fb e hi with
      | none=>rfl
      | some hh =>
       cases fb e mx with
       | none=>rfl
       | some m =>
        dsimp only;exact a7r (G:=id) (F:=fun o h=>tn o ei.size l hh m h) (fun h hh=>ab9 hh) (l:=(Op.slice t x lo hi mx).operands.toList) b5w ho
  simp only [hq];rw [h1,h2]
 case makeFunc fn first caps =>
  show vn e' fn first.toList caps.toList = vn e fn first.toList caps.toList
  unfold vn;rw [a1g (l:=caps.toList) (fun y hy=>hx y (by simp [Op.operands];simp at hy;exact .inr hy)),a1e (l:=caps.toList) (fun y hy=>hx y (by simp [Op.operands];simp at hy;exact .inr hy))];split
  · rfl
  · rename_i f x hf
    rw [hx x (by simp [Op.operands];left;rw [<- Array.mem_toList_iff,hf];simp)]
  rfl
 case build t parts =>
  show s4 E e' t parts.toList = s4 E e t parts.toList;have hf:∀ places cells,ep e' places cells parts.toList = ep e places cells parts.toList:=fun places cells=>vl fun x hm=>hx x (by simpa [Op.operands] using hm);unfold s4;simp only [hf]
 case call c =>
  simp only [hq]
  cases hc:c.callee with
  | value f=>rfl
  | invoke r m=>rfl
  | builtin b =>
   simp only [Op.operands,Call.operands,hc] at hx ho;have h1:∀ x ∈ c.args.toList,e' x = e x:=fun x hm=>hx x (by simpa using hm);have h2:∀ k ∈ bt e c.args.toList,o' k = o k:=fun k hk=>ho k (by simpa using hk);dsimp only;rw [a3w h1,a59 h1 h2]
variable {id:Nat}
def an0 (hx:∀ x ∈ op.operands,e' x = e x):ha E e' id op = ha E e id op:=by
 cases op <;> simp only [ha] <;> simp only [Op.operands] at hx
 case box t x=>rw [hx x b5v]
 case buildSlice t n parts =>
  have hf:∀ sz cells,a0z e' sz n parts.toList cells = a0z e sz n parts.toList cells:=fun sz cells=>by
   unfold a0z;exact vl fun x hm=>hx x (by simpa using hm)
  simp only [hf]
 case makeSlice t l c=>rw [hx l b5v,hx c b5v]
def a85 {y:Operand} (ho:∀ k ∈ bt e [x,y],o' k = o k):i2 E o' e t x y = i2 E o e t x y:=by
 unfold i2
 cases E t with
 | none=>rfl
 | some i =>
  cases hv:e y with
  | none=>rfl
  | some rv =>
   cases rv with
   | tup l=>rfl
   | v cv =>
    cases hex:e x with
    | none=>rfl
    | some r =>
     cases r with
     | tup l=>rfl
     | v cc =>
      cases cc with
      | agg l=>rfl
      | one h =>
       cases h with
       | p x=>cases x <;> rfl
       | ref id n=>rfl
       | ptr id off=>dsimp only;rw [ho id (cr hex b5v id (by simp [HR.ids,HC.ids,HV.ids]))]
       | eptr id n r j=>dsimp only;rw [ho id (cr hex b5v id (by simp [HR.ids,HC.ids,HV.ids]))]
       | win id n i m=>rfl
       | clo g k caps=>rfl
       | row id i k=>rfl
       | rptr id i k r j=>dsimp only;rw [ho id (cr hex b5v id (by simp [HR.ids,HC.ids,HV.ids]))]
       | pin id n ad cap=>rfl
def aar {kk:KK} {m:MK} {y:PV} (ho:∀ k ∈ h.ids,o' k = o k):a03 o' kk m y h = a03 o kk m y h:=by
 cases h with
 | ref id n=>simp only [a03];rw [ho id b5y]
 | _=>rfl
def a1m {v:Operand} (ho:∀ k ∈ bt e [x],o' k = o k):ij E o' e t x i v = ij E o e t x i v:=by
 unfold ij
 cases E t with
 | none=>rfl
 | some ii =>
  dsimp only;cases ii.k <;> try rfl
  rename_i kt et;dsimp only
  cases E kt with
  | none=>rfl
  | some ki =>
   dsimp only
   cases hex:e x with
   | none=>rfl
   | some r =>
    cases r with
    | tup l=>rfl
    | v cc =>
     cases cc with
     | agg l=>rfl
     | one h =>
      dsimp only;have:=fun kk m y=>aar (o:=o) (o':=o') (h:=h) (kk:=kk) (m:=m) (y:=y) (fun k hk=>ho k (cr hex b5v k hk));simp only [this]
def a9p (hx:∀ x ∈ op.operands,e' x = e x) (ho:∀ k ∈ bt e op.operands.toList,o' k = o k):hs E o' e' op = hs E o e op:=by
 cases op <;> try rfl
 case mapUpdate t x i v =>
  show ij E o' e' t x i v = ij E o e t x i v;have h1:ij E o' e' t x i v = ij E o' e t x i v:=by unfold ij;rw [hx x b5w,hx i b5w,hx v b5w]
  rw [h1];refine a1m fun k hk=>ho k ?_;simp only [bt,Op.operands,b3u] at hk ⊢;exact b32 _ hk
 case insert t x i v =>
  show ij E o' e' t x i v = ij E o e t x i v;have h1:ij E o' e' t x i v = ij E o' e t x i v:=by unfold ij;rw [hx x b5w,hx i b5w,hx v b5w]
  rw [h1];refine a1m fun k hk=>ho k ?_;simp only [bt,Op.operands,b3u] at hk ⊢;exact b32 _ hk
 case store t addr v =>
  show i2 E o' e' t addr v = i2 E o e t addr v;have h1:i2 E o' e' t addr v = i2 E o' e t addr v:=by unfold i2;rw [hx addr b5w,hx v b5w]
  rw [h1];exact a85 (by simpa [Op.operands] using ho)
def a1n (ho:∀ k ∈ h.ids,o' k = o k):qz o' id h = qz o id h:=by
 cases h with
 | p x =>
  cases x with
  | raw v =>
   cases v with
   | slice a n c=>cases n <;> rfl
   | _=>rfl
  | _=>rfl
 | ref id' n=>simp only [qz];rw [ho id' b5y]
 | _=>rfl
variable {wb:Bool}
def v8 {y:HV} (hid:o' id = o id) (ho:∀ k ∈ y.ids,o' k = o k):mn E o' id n wb el y = mn E o id n wb el y:=by
 simp only [mn];rw [hid,a1n ho]
def a4v (ho:∀ k ∈ h.ids,o' k = o k):yx o' id h = yx o id h:=by
 simp only [yx];rw [a1n ho]
 cases h with
 | ref id' n=>simp only;rw [ho id' b5y]
 | _=>rfl
def a9i {y:HV} (hid:o' id = o id) (ho:∀ k ∈ y.ids,o' k = o k):sm E o' id n el y = sm E o id n el y:=by
 simp only [sm];rw [hid,a4v ho]
def agy {y:HV} (hid:o' id = o id) (ho:∀ k ∈ y.ids,o' k = o k):a28 E o' id n el y = a28 E o id n el y:=by
 simp only [a28];rw [hid,a4v ho]
def ad8 {i k:Nat} {y:HV} (hid:o' id = o id):xg E o' el id n i k y = xg E o el id n i k y:=by
 unfold xg;rw [hid]
def aga {z:List Value} (ho:∀ k ∈ h.ids,o' k = o k):a5q o' z n h = a5q o z n h:=by
 cases h with
 | win id n i m=>simp only [a5q];rw [ho id b5y]
 | _=>rfl
def acp {hy hx:HV} (h1:∀ k ∈ hx.ids,o' k = o k) (h2:∀ k ∈ hy.ids,o' k = o k):rt E o' id wb el hy hx = rt E o id wb el hy hx:=by
 cases hx with
 | win id1 n i k =>
  simp only [rt];exact ad8 (h1 id1 b5y)
 | pin id1 n ad cap =>
  simp only [rt];rw [v8 (o:=o) (o':=o') (h1 id1 b5y) h2]
 | ref id1 n =>
  simp only [rt];rw [v8 (o:=o) (o':=o') (h1 id1 b5y) h2,a9i (o:=o) (o':=o') (h1 id1 b5y) h2,agy (o:=o) (o':=o') (h1 id1 b5y) h2]
 | p px =>
  cases px with
  | sl n sz cl f =>
   cases cl with
   | false=>rfl
   | true =>
    simp only [rt]
    cases E el with
    | none=>rfl
    | some ei =>
     dsimp only
     rw [v8 (o:=fun k=>if k = id then some (a6.arr false ei.size el n f) else o k) (o':=fun k=>if k = id then some (a6.arr false ei.size el n f) else o' k) b5v (fun k hk=>by
      try dsimp only
      split
      · rfl
      exact h2 k hk)]
  | _=>rfl
 | _=>rfl
def ad4 {x y:Option HR} (hx:∀ r,x = some r -> ∀ k ∈ r.ids,o' k = o k) (hy:∀ r,y = some r -> ∀ k ∈ r.ids,o' k = o k):
 a09 E o' id wb t x y = a09 E o id wb t x y:=by
 unfold a09
 cases E t with
 | none=>rfl
 | some i =>
  dsimp only;cases i.k <;> try rfl
  rename_i el
  cases x with
  | none=>rfl
  | some rx =>
   cases rx with
   | tup l=>rfl
   | v cx =>
    cases cx with
    | agg l=>rfl
    | one hxv =>
     cases y with
     | none=>rfl
     | some ry =>
      cases ry with
      | tup l=>rfl
      | v cy =>
       cases cy with
       | agg l=>rfl
       | one hyv=>exact acp (hx _ rfl) (hy _ rfl)
def ai5 (hx:∀ x ∈ op.operands,e' x = e x) (ho:∀ k ∈ bt e op.operands.toList,o' k = o k):hap E o' e' id wb op = hap E o e id wb op:=by
 cases op <;> try rfl
 case call c =>
  unfold hap;dsimp only;split
  · rename_i hc
    simp only [Op.operands,Call.operands,hc] at hx ho;have h1:∀ x ∈ c.args.toList,e' x = e x:=fun x hm=>hx x (by simpa using hm);have h2:∀ k ∈ bt e c.args.toList,o' k = o k:=fun k hk=>ho k (by simpa using hk);generalize c.args.toList = l at h1 h2;unfold a0s;split
    · rename_i x y t t' _
      split
      · rw [h1 x b5v,h1 y b5v]
        exact ad4 (fun r hr k hk=>h2 k (cr hr b5v k hk)) (fun r hr k hk=>h2 k (cr hr b5v k hk))
      rfl
    rfl
  · rename_i hc
    simp only [Op.operands,Call.operands,hc] at hx ho;have h1:∀ x ∈ c.args.toList,e' x = e x:=fun x hm=>hx x (by simpa using hm);have h2:∀ k ∈ bt e c.args.toList,o' k = o k:=fun k hk=>ho k (by simpa using hk);generalize c.args.toList = l at h1 h2;unfold se;split
    · rename_i x t _
      rw [h1 x b5v]
      cases E t with
      | none=>rfl
      | some ti =>
       dsimp only;cases ti.k <;> try rfl
       rename_i el;dsimp only
       cases E el with
       | none=>rfl
       | some ei =>
        dsimp only
        cases ei.zero with
        | none=>rfl
        | some z =>
         dsimp only;split
         · cases hex:e x with
           | none=>rfl
           | some r =>
            cases r with
            | tup l=>rfl
            | v cc =>
             cases cc with
             | agg l=>rfl
             | one hv=>exact aga fun k hk=>h2 k (cr hex b5v k hk)
         rfl
    rfl
  rfl
def a1b (ho:∀ k ∈ h.ids,o' k = o k):wu o' h = wu o h:=by
 cases h with
 | ref id n=>simp only [wu];rw [ho id b5y]
 | _=>rfl
end
end
end
end Go.Hx
