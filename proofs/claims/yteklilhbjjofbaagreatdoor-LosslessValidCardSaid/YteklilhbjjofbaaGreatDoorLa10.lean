/- A part of the proof: Hx11. -/
import Derived.Test.YteklilhbjjofbaaGreatDoorLa09
set_option linter.all false
namespace Go.Hx
section
open Go.RowKit
section
variable {E:Env} {ex:Bool} {o o':ap} {e e':Ev}
section
variable {x:Operand}
def d9 {r:HR} (hx:e x = some r):∀ {l:List Operand},x ∈ l -> ∀ k ∈ r.ids,k ∈ bz e l
 | y :: l,hm,k,hk=>by
  rcases b33.1 hm with rfl | hm
  · simp only [bz,hx];exact b35 _ hk
  simp only [bz];exact b3a _ (d9 hx hm k hk)
def lu:∀ {l:List Operand},(∀ x ∈ l,e' x = e x) -> bz e' l = bz e l
 | [],_=>rfl
 | x :: l,h=>by
  simp only [bz];rw [h x b5r,lu fun y hy=>h y (by simp [hy])]
def b5u {p:Prop} (h:p:=by simp [HV.ids]):p:=h
variable {h:HV}
def up (ho:∀ k ∈ h.ids,o' k = o k):tgt o' h = tgt o h:=by
 cases h with
 | p x=>cases x <;> rfl
 | ref id n=>rfl
 | ptr id off=>simp only [tgt];rw [ho id b5u]
 | eptr id n i j=>simp only [tgt];rw [ho id b5u]
 | win id n i m=>rfl
 | clo g k caps=>rfl
 | row id i k=>rfl
 | rptr id i k r j=>simp only [tgt];rw [ho id b5u]
 | pin id n ad cap=>rfl
def vk {places:List (Nat × Nat)}:∀ {parts:List (Nat × Operand)} {cells:List HV},(∀ x ∈ parts.map (·.2),e' x = e x) -> f8 e' places cells parts = f8 e places cells parts
 | [],_,_=>rfl
 | (i,x) :: r,cells,h=>by
  have hx:=h x b5r;have ih:∀ cells,f8 e' places cells r = f8 e places cells r:=fun cells=>vk fun y hy=>h y (by simp at hy ⊢;exact .inr hy);simp only [f8,hx,ih]
def a1t:∀ {l:List Operand},(∀ x ∈ l,e' x = e x) -> u7 e' l = u7 e l
 | [],_=>rfl
 | x :: l,h=>by
  simp only [u7];rw [h x b5r,a1t fun y hy=>h y (by simp [hy])]
def a1y:∀ {l:List Operand},(∀ x ∈ l,e' x = e x) -> uc e' l = uc e l
 | [],_=>rfl
 | x :: l,h=>by
  simp only [uc];rw [h x b5r,a1y fun y hy=>h y (by simp [hy])]
def ja {x:Option Operand} (h:∀ y ∈ x.toList,e' y = e y):fj e' x = fj e x:=by
 cases x with
 | none=>rfl
 | some y=>simp only [fj];rw [h y b5r]
def a4q {b:Builtin} {args:List Operand} {tys:List TypeId} (h:∀ x ∈ args,e' x = e x):mw E e' b args tys = mw E e b args tys:=by
 unfold mw;split
 · rename_i x t r
   rw [h x b5r]
 · rename_i x y
   rw [h x b5r,h y b5r]
 · rename_i x y
   rw [h x b5r,h y b5r]
 rfl
def ahn (ho:∀ k ∈ h.ids,o' k = o k):yh o' h = yh o h:=by
 cases h with
 | ref id n=>simp only [yh];rw [ho id b5u]
 | win id n i m=>simp only [yh];rw [ho id b5u]
 | row id i k=>simp only [yh];rw [ho id b5u]
 | _=>rfl
variable {n:Nat}
def ahi {i:Int} (ho:∀ k ∈ h.ids,o' k = o k):a3k o' n i h = a3k o n i h:=by
 cases h with
 | ref id n=>simp only [a3k];rw [ho id b5u]
 | win id n i m=>simp only [a3k];rw [ho id b5u]
 | row id i k=>simp only [a3k];rw [ho id b5u]
 | p x=>cases x <;> rfl
 | _=>rfl
def abv {x y z:Option Int} (ho:∀ k ∈ h.ids,o' k = o k):sq o' n x y z h = sq o n x y z h:=by
 cases h with
 | ref id n=>simp only [sq];rw [ho id b5u]
 | win id n i m=>simp only [sq];rw [ho id b5u]
 | _=>rfl
def a8g {l:List Operand} {F:ap -> HV -> Option Out} {α:Type} {d:α} {G:Option Out -> α} (hF:∀ h:HV,(∀ k ∈ h.ids,o' k = o k) -> F o' h = F o h) (hl:x ∈ l) (ho:∀ k ∈ bz e l,o' k = o k):
 (match e x with | some (.v (.one h))=>G (F o' h) | _=>d) = (match e x with | some (.v (.one h))=>G (F o h) | _=>d):=by
 cases hex:e x with
 | none=>rfl
 | some r =>
  cases r with
  | tup l=>rfl
  | v cc =>
   cases cc with
   | agg l=>rfl
   | one h =>
    dsimp only;rw [hF h fun k hk=>ho k (d9 hex hl k hk)]
def a7e {b:Builtin} {args:List Operand} {tys:List TypeId} (h:∀ x ∈ args,e' x = e x) (ho:∀ k ∈ bz e args,o' k = o k):p8 E o' e' b args tys = p8 E o e b args tys:=by
 unfold p8;split
 · rename_i x t r
   rw [h x b5r]
   cases E t with
   | none=>rfl
   | some ti =>
    dsimp only;cases ti.k <;> try rfl
    exact a8g (G:=id) (F:=yh) (fun h hh=>ahn hh) b5r ho
 rfl
def ae6 (ho:∀ k ∈ bz e [x],o' k = o k):mc o' e x = mc o e x:=by
 unfold mc
 cases hex:e x with
 | none=>rfl
 | some r =>
  cases r with
  | tup l=>rfl
  | v cc =>
   cases cc with
   | agg l=>rfl
   | one h =>
    have:=up (o:=o) (o':=o') (h:=h) (fun k hk=>ho k (d9 hex b5r k hk))
    cases h with
    | p x=>cases x <;> rfl
    | ref id n=>rfl
    | ptr id off=>dsimp only;rw [this]
    | eptr id n i j=>dsimp only;rw [this]
    | win id n i m=>rfl
    | clo g k caps=>rfl
    | row id i k=>rfl
    | rptr id i k r j=>dsimp only;rw [this]
    | pin id n ad cap=>rfl
variable {t:TypeId}
def abp (ho:∀ k ∈ bz e [x],o' k = o k):jd E o' e t x = jd E o e t x:=by
 unfold jd
 cases E t with
 | none=>rfl
 | some i =>
  dsimp only
  cases hex:e x with
  | none=>rfl
  | some r =>
   cases r with
   | tup l=>rfl
   | v cc =>
    cases cc with
    | agg l=>rfl
    | one h =>
     dsimp only;rw [up (o:=o) (o':=o') (h:=h) (fun k hk=>ho k (d9 hex b5r k hk))]
def a1g {k:Nat} (ho:∀ k ∈ bz e [x],o' k = o k):dv E o' e t x k = dv E o e t x k:=by
 unfold dv
 cases E t with
 | none=>rfl
 | some i =>
  dsimp only;cases i.k <;> try rfl
  rename_i fs;dsimp only
  cases fs[k]? with
  | none=>rfl
  | some q =>
   obtain ⟨off,ft,bl⟩:=q;dsimp only
   cases E ft with
   | none=>rfl
   | some fi =>
    dsimp only
    cases hex:e x with
    | none=>rfl
    | some r =>
     cases r with
     | tup l=>rfl
     | v cc =>
      cases cc with
      | agg l=>rfl
      | one h =>
       dsimp only;rw [up (o:=o) (o':=o') (h:=h) (fun k hk=>ho k (d9 hex b5r k hk))]
variable {el:TypeId} {i:Operand}
def a33 {len:Nat} (ho:∀ k ∈ bz e [x],o' k = o k):ji E o' e len el x i = ji E o e len el x i:=by
 unfold ji
 cases E el with
 | none=>rfl
 | some ei =>
  dsimp only
  cases hex:e x with
  | none=>rfl
  | some r =>
   cases r with
   | tup l=>rfl
   | v cc =>
    cases cc with
    | agg l=>rfl
    | one h =>
     dsimp only;rw [up (o:=o) (o':=o') (h:=h) (fun k hk=>ho k (d9 hex b5r k hk))]
def a1e (ho:∀ k ∈ bz e [x],o' k = o k):en E o' e t x i = en E o e t x i:=by
 unfold en
 cases E t with
 | none=>rfl
 | some ii =>
  dsimp only;cases ii.k <;> try rfl
  case array len el=>exact a33 ho
  rename_i el;dsimp only
  cases E el with
  | none=>rfl
  | some ei =>
   dsimp only
   cases hex:e x with
   | none=>rfl
   | some r =>
    cases r with
    | tup l=>rfl
    | v cc =>
     cases cc with
     | agg l=>rfl
     | one h =>
      dsimp only;have:=fun iv=>ahi (o:=o) (o':=o') (h:=h) (n:=ei.size) (i:=iv) (fun k hk=>ho k (d9 hex b5r k hk));simp only [this]
def adt {kk:KK} {m:MK} {z:Value} {cm:Bool} (ho:∀ k ∈ h.ids,o' k = o k):a47 o' kk m z cm h = a47 o kk m z cm h:=by
 cases h with
 | ref id n=>simp only [a47];rw [ho id b5u]
 | p y=>cases y <;> rfl
 | _=>rfl
def a6l {cm:Bool} (ho:∀ k ∈ bz e [x],o' k = o k):gr E o' e t x i cm = gr E o e t x i cm:=by
 unfold gr
 cases E t with
 | none=>rfl
 | some ii =>
  dsimp only;cases ii.k <;> try rfl
  rename_i kt et;dsimp only
  cases a90 E kt et with
  | none=>rfl
  | some q =>
   obtain ⟨kk,z⟩:=q;dsimp only
   cases hex:e x with
   | none=>rfl
   | some r =>
    cases r with
    | tup l=>rfl
    | v cc =>
     cases cc with
     | agg l=>rfl
     | one h =>
      dsimp only;have:=fun m=>adt (o:=o) (o':=o') (h:=h) (kk:=kk) (m:=m) (z:=z) (cm:=cm) (fun k hk=>ho k (d9 hex b5r k hk));simp only [this]
def a8s {op:BinOp} (ho:∀ k ∈ h.ids,o' k = o k):wc o' op h = wc o op h:=by
 cases h with
 | ptr id n=>simp only [wc];rw [ho id b5u]
 | p x=>cases x with
  | raw v=>cases v <;> rfl
  | _=>rfl
 | _=>rfl
def a5l {op:BinOp} {y:Operand} (ho:∀ k ∈ bz e [x],o' k = o k):gu E o' e op t x y = gu E o e op t x y:=by
 unfold gu;split <;> try rfl
 cases E t with
 | none=>rfl
 | some ii =>
  dsimp only;cases ii.k <;> try rfl
  dsimp only
  cases hex:e x with
  | none=>rfl
  | some r =>
   cases r with
   | tup l=>rfl
   | v cc =>
    cases cc with
    | agg l=>rfl
    | one h=>exact a8s (fun k hk=>ho k (d9 hex b5r k hk))
def b5s {p:Prop} (h:p:=by simp [Op.operands]):p:=h
variable {op:Op}
def alt (hx:∀ x ∈ op.operands,e' x = e x) (ho:∀ k ∈ bz e op.operands.toList,o' k = o k):hq E ex o' e' op = hq E ex o e op:=by
 cases op <;> try rfl
 case move x=>show Option.map _ (e' x) = Option.map _ (e x);rw [hx x b5s]
 case assign x=>show Option.map _ (e' x) = Option.map _ (e x);rw [hx x b5s]
 case pick c x y =>
  show wo e' c x y = wo e c x y;unfold wo;rw [hx c b5s,hx x b5s,hx y b5s]
 case nilCheck x =>
  show mc o' e' x = mc o e x;have h1:mc o' e' x = mc o' e x:=by unfold mc;rw [hx x b5s]
  rw [h1];exact ae6 (by simpa [Op.operands] using ho)
 case load t x =>
  show jd E o' e' t x = jd E o e t x;have h1:jd E o' e' t x = jd E o' e t x:=by unfold jd;rw [hx x b5s]
  rw [h1];exact abp (by simpa [Op.operands] using ho)
 case fieldAddr t x k =>
  show dv E o' e' t x k = dv E o e t x k;have h1:dv E o' e' t x k = dv E o' e t x k:=by unfold dv;rw [hx x b5s]
  rw [h1];exact a1g (by simpa [Op.operands] using ho)
 case field t x k =>
  show s8 E e' t x k = s8 E e t x k;unfold s8;rw [hx x b5s]
 case indexAddr t x i =>
  show en E o' e' t x i = en E o e t x i;have h1:en E o' e' t x i = en E o' e t x i:=by unfold en ji;rw [hx x b5s,hx i b5s]
  rw [h1];refine a1e fun k hk=>ho k ?_;simp only [bz,Op.operands,b41] at hk ⊢;exact b35 _ hk
 case lookup t x i cm =>
  show gr E o' e' t x i cm = gr E o e t x i cm;have h1:gr E o' e' t x i cm = gr E o' e t x i cm:=by unfold gr;rw [hx x b5s,hx i b5s]
  rw [h1];refine a6l fun k hk=>ho k ?_;simp only [bz,Op.operands,b41] at hk ⊢;exact b35 _ hk
 case index t x i =>
  show sc E e' t x i = sc E e t x i;unfold sc;rw [hx x b5s,hx i b5s]
 case binOp op t x y ty =>
  have h1:a0h E ex e' op t x y = a0h E ex e op t x y:=by
   unfold a0h;rw [hx x b5s,hx y b5s]
  have h2:oj E e' op t x y = oj E e op t x y:=by
   unfold oj;rw [hx x b5s]
  have h3:gu E o' e' op t x y = gu E o e op t x y:=by
   have h1:gu E o' e' op t x y = gu E o' e op t x y:=by unfold gu;rw [hx x b5s]
   rw [h1];refine a5l fun k hk=>ho k ?_;simp only [bz,Op.operands,b41] at hk ⊢;exact b35 _ hk
  simp only [hq];rw [h1,h2,h3]
 case unOp op t x =>
  show a7d ex e' op x = a7d ex e op x;unfold a7d;rw [hx x b5s]
 case convert src dst x =>
  show vz E ex e' src dst x = vz E ex e src dst x;unfold vz;rw [hx x b5s]
 case extract x i =>
  show n4 e' x i = n4 e x i;unfold n4;rw [hx x b5s]
 case slice t x lo hi mx =>
  have e0:=hx x b5s;have e1:=ja (e:=e) (e':=e') (x:=lo) (fun y hy=>hx y (by simp [Op.operands];simp at hy;simp [hy]));have e2:=ja (e:=e) (e':=e') (x:=hi) (fun y hy=>hx y (by simp [Op.operands];simp at hy;simp [hy]));have e3:=ja (e:=e) (e':=e') (x:=mx) (fun y hy=>hx y (by simp [Op.operands];simp at hy;simp [hy]))
  have h1:i9 E e' t x lo hi mx = i9 E e t x lo hi mx:=by
   unfold i9;rw [e0,e1,e2,e3]
  have h2:a12 E o' e' t x lo hi mx = a12 E o e t x lo hi mx:=by
   unfold a12;rw [e0,e1,e2,e3]
   cases E t with
   | none=>rfl
   | some ti =>
    dsimp only;cases ti.k <;> try rfl
    rename_i el;dsimp only
    cases E el with
    | none=>rfl
    | some ei =>
     dsimp only
     cases fj e lo with
     | none=>rfl
     | some l =>
      cases fj e hi with
      | none=>rfl
      | some hh =>
       cases fj e mx with
       | none=>rfl
       | some m =>
        dsimp only;exact a8g (G:=id) (F:=fun o h=>sq o ei.size l hh m h) (fun h hh=>abv hh) (l:=(Op.slice t x lo hi mx).operands.toList) b5s ho
  simp only [hq];rw [h1,h2]
 case makeFunc fn first caps =>
  show w8 e' fn first.toList caps.toList = w8 e fn first.toList caps.toList
  unfold w8;rw [a1t (l:=caps.toList) (fun y hy=>hx y (by simp [Op.operands];simp at hy;exact .inr hy)),a1y (l:=caps.toList) (fun y hy=>hx y (by simp [Op.operands];simp at hy;exact .inr hy))];split
  · rfl
  · rename_i f x hf
    rw [hx x (by simp [Op.operands];left;rw [<- Array.mem_toList_iff,hf];simp)]
  rfl
 case build t parts =>
  show sb E e' t parts.toList = sb E e t parts.toList;have hf:∀ places cells,f8 e' places cells parts.toList = f8 e places cells parts.toList:=fun places cells=>vk fun x hm=>hx x (by simpa [Op.operands] using hm);unfold sb;simp only [hf]
 case call c =>
  simp only [hq]
  cases hc:c.callee with
  | value f=>rfl
  | invoke r m=>rfl
  | builtin b =>
   simp only [Op.operands,Call.operands,hc] at hx ho;have h1:∀ x ∈ c.args.toList,e' x = e x:=fun x hm=>hx x (by simpa using hm);have h2:∀ k ∈ bz e c.args.toList,o' k = o k:=fun k hk=>ho k (by simpa using hk);dsimp only;rw [a4q h1,a7e h1 h2]
variable {id:Nat}
def amp (hx:∀ x ∈ op.operands,e' x = e x):ha E e' id op = ha E e id op:=by
 cases op <;> simp only [ha] <;> simp only [Op.operands] at hx
 case box t x=>rw [hx x b5r]
 case buildSlice t n parts =>
  have hf:∀ sz cells,a10 e' sz n parts.toList cells = a10 e sz n parts.toList cells:=fun sz cells=>by
   unfold a10;exact vk fun x hm=>hx x (by simpa using hm)
  simp only [hf]
 case makeSlice t l c=>rw [hx l b5r,hx c b5r]
def a8t {y:Operand} (ho:∀ k ∈ bz e [x,y],o' k = o k):i2 E o' e t x y = i2 E o e t x y:=by
 unfold i2
 cases E t with
 | none=>rfl
 | some i =>
  cases hv:e y with
  | none=>rfl
  | some rv =>
   cases rv with
   | tup l=>rfl
   | v cv =>
    cases hex:e x with
    | none=>rfl
    | some r =>
     cases r with
     | tup l=>rfl
     | v cc =>
      cases cc with
      | agg l=>rfl
      | one h =>
       cases h with
       | p x=>cases x <;> rfl
       | ref id n=>rfl
       | ptr id off=>dsimp only;rw [ho id (d9 hex b5r id (by simp [HR.ids,HC.ids,HV.ids]))]
       | eptr id n r j=>dsimp only;rw [ho id (d9 hex b5r id (by simp [HR.ids,HC.ids,HV.ids]))]
       | win id n i m=>rfl
       | clo g k caps=>rfl
       | row id i k=>rfl
       | rptr id i k r j=>dsimp only;rw [ho id (d9 hex b5r id (by simp [HR.ids,HC.ids,HV.ids]))]
       | pin id n ad cap=>rfl
def aa1 {kk:KK} {m:MK} {y:PV} (ho:∀ k ∈ h.ids,o' k = o k):zm o' kk m y h = zm o kk m y h:=by
 cases h with
 | ref id n=>simp only [zm];rw [ho id b5u]
 | _=>rfl
def a1w {v:Operand} (ho:∀ k ∈ bz e [x],o' k = o k):ik E o' e t x i v = ik E o e t x i v:=by
 unfold ik
 cases E t with
 | none=>rfl
 | some ii =>
  dsimp only;cases ii.k <;> try rfl
  rename_i kt et;dsimp only
  cases E kt with
  | none=>rfl
  | some ki =>
   dsimp only
   cases hex:e x with
   | none=>rfl
   | some r =>
    cases r with
    | tup l=>rfl
    | v cc =>
     cases cc with
     | agg l=>rfl
     | one h =>
      dsimp only;have:=fun kk m y=>aa1 (o:=o) (o':=o') (h:=h) (kk:=kk) (m:=m) (y:=y) (fun k hk=>ho k (d9 hex b5r k hk));simp only [this]
def ad9 (hx:∀ x ∈ op.operands,e' x = e x) (ho:∀ k ∈ bz e op.operands.toList,o' k = o k):hs E o' e' op = hs E o e op:=by
 cases op <;> try rfl
 case mapUpdate t x i v =>
  show ik E o' e' t x i v = ik E o e t x i v;have h1:ik E o' e' t x i v = ik E o' e t x i v:=by unfold ik;rw [hx x b5s,hx i b5s,hx v b5s]
  rw [h1];refine a1w fun k hk=>ho k ?_;simp only [bz,Op.operands,b41] at hk ⊢;exact b35 _ hk
 case insert t x i v =>
  show ik E o' e' t x i v = ik E o e t x i v;have h1:ik E o' e' t x i v = ik E o' e t x i v:=by unfold ik;rw [hx x b5s,hx i b5s,hx v b5s]
  rw [h1];refine a1w fun k hk=>ho k ?_;simp only [bz,Op.operands,b41] at hk ⊢;exact b35 _ hk
 case store t addr v =>
  show i2 E o' e' t addr v = i2 E o e t addr v;have h1:i2 E o' e' t addr v = i2 E o' e t addr v:=by unfold i2;rw [hx addr b5s,hx v b5s]
  rw [h1];exact a8t (by simpa [Op.operands] using ho)
def a1v (ho:∀ k ∈ h.ids,o' k = o k):qt o' id h = qt o id h:=by
 cases h with
 | p x =>
  cases x with
  | raw v =>
   cases v with
   | slice a n c=>cases n <;> rfl
   | _=>rfl
  | _=>rfl
 | ref id' n=>simp only [qt];rw [ho id' b5u]
 | _=>rfl
variable {wb:Bool}
def uz {y:HV} (hid:o' id = o id) (ho:∀ k ∈ y.ids,o' k = o k):lx E o' id n wb el y = lx E o id n wb el y:=by
 simp only [lx];rw [hid,a1v ho]
def a4r (ho:∀ k ∈ h.ids,o' k = o k):zp o' id h = zp o id h:=by
 simp only [zp];rw [a1v ho]
 cases h with
 | ref id' n=>simp only;rw [ho id' b5u]
 | _=>rfl
def acr {y:HV} (hid:o' id = o id) (ho:∀ k ∈ y.ids,o' k = o k):th E o' id n el y = th E o id n el y:=by
 simp only [th];rw [hid,a4r ho]
def ag6 {y:HV} (hid:o' id = o id) (ho:∀ k ∈ y.ids,o' k = o k):a3b E o' id n el y = a3b E o id n el y:=by
 simp only [a3b];rw [hid,a4r ho]
def ae1 {i k:Nat} {y:HV} (hid:o' id = o id):xz E o' el id n i k y = xz E o el id n i k y:=by
 unfold xz;rw [hid]
def agj {z:List Value} (ho:∀ k ∈ h.ids,o' k = o k):a65 o' z n h = a65 o z n h:=by
 cases h with
 | win id n i m=>simp only [a65];rw [ho id b5u]
 | _=>rfl
def adj {hy hx:HV} (h1:∀ k ∈ hx.ids,o' k = o k) (h2:∀ k ∈ hy.ids,o' k = o k):rt E o' id wb el hy hx = rt E o id wb el hy hx:=by
 cases hx with
 | win id1 n i k =>
  simp only [rt];exact ae1 (h1 id1 b5u)
 | pin id1 n ad cap =>
  simp only [rt];rw [uz (o:=o) (o':=o') (h1 id1 b5u) h2]
 | ref id1 n =>
  simp only [rt];rw [uz (o:=o) (o':=o') (h1 id1 b5u) h2,acr (o:=o) (o':=o') (h1 id1 b5u) h2,ag6 (o:=o) (o':=o') (h1 id1 b5u) h2]
 | p px =>
  cases px with
  | sl n sz cl f =>
   cases cl with
   | false=>rfl
   | true =>
    simp only [rt]
    cases E el with
    | none=>rfl
    | some ei =>
     dsimp only
     rw [uz (o:=fun k=>if k = id then some (a6.arr false ei.size el n f) else o k) (o':=fun k=>if k = id then some (a6.arr false ei.size el n f) else o' k) b5r (fun k hk=>by
      try dsimp only
      split
      · rfl
      exact h2 k hk)]
  | _=>rfl
 | _=>rfl
def adq {x y:Option HR} (hx:∀ r,x = some r -> ∀ k ∈ r.ids,o' k = o k) (hy:∀ r,y = some r -> ∀ k ∈ r.ids,o' k = o k):
 a0x E o' id wb t x y = a0x E o id wb t x y:=by
 unfold a0x
 cases E t with
 | none=>rfl
 | some i =>
  dsimp only;cases i.k <;> try rfl
  rename_i el
  cases x with
  | none=>rfl
  | some rx =>
   cases rx with
   | tup l=>rfl
   | v cx =>
    cases cx with
    | agg l=>rfl
    | one hxv =>
     cases y with
     | none=>rfl
     | some ry =>
      cases ry with
      | tup l=>rfl
      | v cy =>
       cases cy with
       | agg l=>rfl
       | one hyv=>exact adj (hx _ rfl) (hy _ rfl)
def akx (hx:∀ x ∈ op.operands,e' x = e x) (ho:∀ k ∈ bz e op.operands.toList,o' k = o k):hap E o' e' id wb op = hap E o e id wb op:=by
 cases op <;> try rfl
 case call c =>
  unfold hap;dsimp only;split
  · rename_i hc
    simp only [Op.operands,Call.operands,hc] at hx ho;have h1:∀ x ∈ c.args.toList,e' x = e x:=fun x hm=>hx x (by simpa using hm);have h2:∀ k ∈ bz e c.args.toList,o' k = o k:=fun k hk=>ho k (by simpa using hk);generalize c.args.toList = l at h1 h2;unfold a0m;split
    · rename_i x y t t' _
      split
      · rw [h1 x b5r,h1 y b5r]
        exact adq (fun r hr k hk=>h2 k (d9 hr b5r k hk)) (fun r hr k hk=>h2 k (d9 hr b5r k hk))
      rfl
    rfl
  · rename_i hc
    simp only [Op.operands,Call.operands,hc] at hx ho;have h1:∀ x ∈ c.args.toList,e' x = e x:=fun x hm=>hx x (by simpa using hm);have h2:∀ k ∈ bz e c.args.toList,o' k = o k:=fun k hk=>ho k (by simpa using hk);generalize c.args.toList = l at h1 h2;unfold tk;split
    · rename_i x t _
      rw [h1 x b5r]
      cases E t with
      | none=>rfl
      | some ti =>
       dsimp only;cases ti.k <;> try rfl
       rename_i el;dsimp only
       cases E el with
       | none=>rfl
       | some ei =>
        dsimp only
        cases ei.zero with
        | none=>rfl
        | some z =>
         dsimp only;split
         · cases hex:e x with
           | none=>rfl
           | some r =>
            cases r with
            | tup l=>rfl
            | v cc =>
             cases cc with
             | agg l=>rfl
             | one hv=>exact agj fun k hk=>h2 k (d9 hex b5r k hk)
         rfl
    rfl
  rfl
def a1j (ho:∀ k ∈ h.ids,o' k = o k):xg o' h = xg o h:=by
 cases h with
 | ref id n=>simp only [xg];rw [ho id b5u]
 | _=>rfl
end
end
end
end Go.Hx
