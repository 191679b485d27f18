/- A part of the proof: Hx11. -/
import Derived.Test.YtnlcekpflogjkaaGreatDoorTx09
set_option linter.all false
namespace Go.Hx
section
open Go.RowKit
section
variable {E:Env} {ex:Bool} {o o':ap} {e e':Ev}
section
variable {x:Operand}
def er {r:HR} (hx:e x = some r):∀ {l:List Operand},x ∈ l -> ∀ k ∈ r.ids,k ∈ da e l
 | y :: l,hm,k,hk=>by
  rcases brm.1 hm with rfl | hm
  · simp only [da,hx];exact brz _ hk
  simp only [da];exact bs3 _ (er hx hm k hk)
def so:∀ {l:List Operand},(∀ x ∈ l,e' x = e x) -> da e' l = da e l
 | [],_=>rfl
 | x :: l,h=>by
  simp only [da];rw [h x bvd,so fun y hy=>h y (by simp [hy])]
def bvk {p:Prop} (h:p:=by simp [HV.ids]):p:=h
variable {h:HV}
def a0x (ho:∀ k ∈ h.ids,o' k = o k):tgt o' h = tgt o h:=by
 cases h with
 | p x=>cases x <;> rfl
 | ref id n=>rfl
 | ptr id off=>simp only [tgt];rw [ho id bvk]
 | eptr id n i j=>simp only [tgt];rw [ho id bvk]
 | win id n i m=>rfl
 | clo g k caps=>rfl
 | row id i k=>rfl
 | rptr id i k r j=>simp only [tgt];rw [ho id bvk]
 | pin id n ad cap=>rfl
def a1u {places:List (Nat × Nat)}:∀ {parts:List (Nat × Operand)} {cells:List HV},(∀ x ∈ parts.map (·.2),e' x = e x) -> j0 e' places cells parts = j0 e places cells parts
 | [],_,_=>rfl
 | (i,x) :: r,cells,h=>by
  have hx:=h x bvd;have ih:∀ cells,j0 e' places cells r = j0 e places cells r:=fun cells=>a1u fun y hy=>h y (by simp at hy ⊢;exact .inr hy);simp only [j0,hx,ih]
def aal:∀ {l:List Operand},(∀ x ∈ l,e' x = e x) -> a1e e' l = a1e e l
 | [],_=>rfl
 | x :: l,h=>by
  simp only [a1e];rw [h x bvd,aal fun y hy=>h y (by simp [hy])]
def aam:∀ {l:List Operand},(∀ x ∈ l,e' x = e x) -> a17 e' l = a17 e l
 | [],_=>rfl
 | x :: l,h=>by
  simp only [a17];rw [h x bvd,aam fun y hy=>h y (by simp [hy])]
def o8 {x:Option Operand} (h:∀ y ∈ x.toList,e' y = e y):ji e' x = ji e x:=by
 cases x with
 | none=>rfl
 | some y=>simp only [ji];rw [h y bvd]
def adb {b:Builtin} {args:List Operand} {tys:List TypeId} (h:∀ x ∈ args,e' x = e x):ud E e' b args tys = ud E e b args tys:=by
 unfold ud;split
 · rename_i x t r
   rw [h x bvd]
 · rename_i x y
   rw [h x bvd,h y bvd]
 · rename_i x y
   rw [h x bvd,h y bvd]
 rfl
def aws (ho:∀ k ∈ h.ids,o' k = o k):a6v o' h = a6v o h:=by
 cases h with
 | ref id n=>simp only [a6v];rw [ho id bvk]
 | win id n i m=>simp only [a6v];rw [ho id bvk]
 | row id i k=>simp only [a6v];rw [ho id bvk]
 | _=>rfl
variable {n:Nat}
def avy {i:Int} (ho:∀ k ∈ h.ids,o' k = o k):ab2 o' n i h = ab2 o n i h:=by
 cases h with
 | ref id n=>simp only [ab2];rw [ho id bvk]
 | win id n i m=>simp only [ab2];rw [ho id bvk]
 | row id i k=>simp only [ab2];rw [ho id bvk]
 | p x=>cases x <;> rfl
 | _=>rfl
def ao9 {x y z:Option Int} (ho:∀ k ∈ h.ids,o' k = o k):zx o' n x y z h = zx o n x y z h:=by
 cases h with
 | ref id n=>simp only [zx];rw [ho id bvk]
 | win id n i m=>simp only [zx];rw [ho id bvk]
 | _=>rfl
def ais {l:List Operand} {F:ap -> HV -> Option Out} {α:Type} {d:α} {G:Option Out -> α} (hF:∀ h:HV,(∀ k ∈ h.ids,o' k = o k) -> F o' h = F o h) (hl:x ∈ l) (ho:∀ k ∈ da e l,o' k = o k):
 (match e x with | some (.v (.one h))=>G (F o' h) | _=>d) = (match e x with | some (.v (.one h))=>G (F o h) | _=>d):=by
 cases hex:e x with
 | none=>rfl
 | some r =>
  cases r with
  | tup l=>rfl
  | v cc =>
   cases cc with
   | agg l=>rfl
   | one h =>
    dsimp only;rw [hF h fun k hk=>ho k (er hex hl k hk)]
def ai1 {b:Builtin} {args:List Operand} {tys:List TypeId} (h:∀ x ∈ args,e' x = e x) (ho:∀ k ∈ da e args,o' k = o k):w4 E o' e' b args tys = w4 E o e b args tys:=by
 unfold w4;split
 · rename_i x t r
   rw [h x bvd]
   cases E t with
   | none=>rfl
   | some ti =>
    dsimp only;cases ti.k <;> try rfl
    exact ais (G:=id) (F:=a6v) (fun h hh=>aws hh) bvd ho
 rfl
def ar8 (ho:∀ k ∈ da e [x],o' k = o k):t8 o' e x = t8 o e x:=by
 unfold t8
 cases hex:e x with
 | none=>rfl
 | some r =>
  cases r with
  | tup l=>rfl
  | v cc =>
   cases cc with
   | agg l=>rfl
   | one h =>
    have:=a0x (o:=o) (o':=o') (h:=h) (fun k hk=>ho k (er hex bvd k hk))
    cases h with
    | p x=>cases x <;> rfl
    | ref id n=>rfl
    | ptr id off=>dsimp only;rw [this]
    | eptr id n i j=>dsimp only;rw [this]
    | win id n i m=>rfl
    | clo g k caps=>rfl
    | row id i k=>rfl
    | rptr id i k r j=>dsimp only;rw [this]
    | pin id n ad cap=>rfl
variable {t:TypeId}
def anv (ho:∀ k ∈ da e [x],o' k = o k):o6 E o' e t x = o6 E o e t x:=by
 unfold o6
 cases E t with
 | none=>rfl
 | some i =>
  dsimp only
  cases hex:e x with
  | none=>rfl
  | some r =>
   cases r with
   | tup l=>rfl
   | v cc =>
    cases cc with
    | agg l=>rfl
    | one h =>
     dsimp only;rw [a0x (o:=o) (o':=o') (h:=h) (fun k hk=>ho k (er hex bvd k hk))]
def a9v {k:Nat} (ho:∀ k ∈ da e [x],o' k = o k):gp E o' e t x k = gp E o e t x k:=by
 unfold gp
 cases E t with
 | none=>rfl
 | some i =>
  dsimp only;cases i.k <;> try rfl
  rename_i fs;dsimp only
  cases fs[k]? with
  | none=>rfl
  | some q =>
   obtain ⟨off,ft,bl⟩:=q;dsimp only
   cases E ft with
   | none=>rfl
   | some fi =>
    dsimp only
    cases hex:e x with
    | none=>rfl
    | some r =>
     cases r with
     | tup l=>rfl
     | v cc =>
      cases cc with
      | agg l=>rfl
      | one h =>
       dsimp only;rw [a0x (o:=o) (o':=o') (h:=h) (fun k hk=>ho k (er hex bvd k hk))]
variable {el:TypeId} {i:Operand}
def ab5 {len:Nat} (ho:∀ k ∈ da e [x],o' k = o k):oq E o' e len el x i = oq E o e len el x i:=by
 unfold oq
 cases E el with
 | none=>rfl
 | some ei =>
  dsimp only
  cases hex:e x with
  | none=>rfl
  | some r =>
   cases r with
   | tup l=>rfl
   | v cc =>
    cases cc with
    | agg l=>rfl
    | one h =>
     dsimp only;rw [a0x (o:=o) (o':=o') (h:=h) (fun k hk=>ho k (er hex bvd k hk))]
def a9r (ho:∀ k ∈ da e [x],o' k = o k):ic E o' e t x i = ic E o e t x i:=by
 unfold ic
 cases E t with
 | none=>rfl
 | some ii =>
  dsimp only;cases ii.k <;> try rfl
  case array len el=>exact ab5 ho
  rename_i el;dsimp only
  cases E el with
  | none=>rfl
  | some ei =>
   dsimp only
   cases hex:e x with
   | none=>rfl
   | some r =>
    cases r with
    | tup l=>rfl
    | v cc =>
     cases cc with
     | agg l=>rfl
     | one h =>
      dsimp only;have:=fun iv=>avy (o:=o) (o':=o') (h:=h) (n:=ei.size) (i:=iv) (fun k hk=>ho k (er hex bvd k hk));simp only [this]
def ari {kk:KK} {m:MK} {z:Value} {cm:Bool} (ho:∀ k ∈ h.ids,o' k = o k):adl o' kk m z cm h = adl o kk m z cm h:=by
 cases h with
 | ref id n=>simp only [adl];rw [ho id bvk]
 | p y=>cases y <;> rfl
 | _=>rfl
def afx {cm:Bool} (ho:∀ k ∈ da e [x],o' k = o k):lx E o' e t x i cm = lx E o e t x i cm:=by
 unfold lx
 cases E t with
 | none=>rfl
 | some ii =>
  dsimp only;cases ii.k <;> try rfl
  rename_i kt et;dsimp only
  cases akm E kt et with
  | none=>rfl
  | some q =>
   obtain ⟨kk,z⟩:=q;dsimp only
   cases hex:e x with
   | none=>rfl
   | some r =>
    cases r with
    | tup l=>rfl
    | v cc =>
     cases cc with
     | agg l=>rfl
     | one h =>
      dsimp only;have:=fun m=>ari (o:=o) (o':=o') (h:=h) (kk:=kk) (m:=m) (z:=z) (cm:=cm) (fun k hk=>ho k (er hex bvd k hk));simp only [this]
def ak4 {op:BinOp} (ho:∀ k ∈ h.ids,o' k = o k):a3m o' op h = a3m o op h:=by
 cases h with
 | ptr id n=>simp only [a3m];rw [ho id bvk]
 | p x=>cases x with
  | raw v=>cases v <;> rfl
  | _=>rfl
 | _=>rfl
def ai4 {op:BinOp} {y:Operand} (ho:∀ k ∈ da e [x],o' k = o k):lh E o' e op t x y = lh E o e op t x y:=by
 unfold lh;split <;> try rfl
 cases E t with
 | none=>rfl
 | some ii =>
  dsimp only;cases ii.k <;> try rfl
  dsimp only
  cases hex:e x with
  | none=>rfl
  | some r =>
   cases r with
   | tup l=>rfl
   | v cc =>
    cases cc with
    | agg l=>rfl
    | one h=>exact ak4 (fun k hk=>ho k (er hex bvd k hk))
def bvf {p:Prop} (h:p:=by simp [Op.operands]):p:=h
variable {op:Op}
def b4l (hx:∀ x ∈ op.operands,e' x = e x) (ho:∀ k ∈ da e op.operands.toList,o' k = o k):hq E ex o' e' op = hq E ex o e op:=by
 cases op <;> try rfl
 case move x=>show Option.map _ (e' x) = Option.map _ (e x);rw [hx x bvf]
 case assign x=>show Option.map _ (e' x) = Option.map _ (e x);rw [hx x bvf]
 case pick c x y =>
  show a3r e' c x y = a3r e c x y;unfold a3r;rw [hx c bvf,hx x bvf,hx y bvf]
 case nilCheck x =>
  show t8 o' e' x = t8 o e x;have h1:t8 o' e' x = t8 o' e x:=by unfold t8;rw [hx x bvf]
  rw [h1];exact ar8 (by simpa [Op.operands] using ho)
 case load t x =>
  show o6 E o' e' t x = o6 E o e t x;have h1:o6 E o' e' t x = o6 E o' e t x:=by unfold o6;rw [hx x bvf]
  rw [h1];exact anv (by simpa [Op.operands] using ho)
 case fieldAddr t x k =>
  show gp E o' e' t x k = gp E o e t x k;have h1:gp E o' e' t x k = gp E o' e t x k:=by unfold gp;rw [hx x bvf]
  rw [h1];exact a9v (by simpa [Op.operands] using ho)
 case field t x k =>
  show yz E e' t x k = yz E e t x k;unfold yz;rw [hx x bvf]
 case indexAddr t x i =>
  show ic E o' e' t x i = ic E o e t x i;have h1:ic E o' e' t x i = ic E o' e t x i:=by unfold ic oq;rw [hx x bvf,hx i bvf]
  rw [h1];refine a9r fun k hk=>ho k ?_;simp only [da,Op.operands,bse] at hk ⊢;exact brz _ hk
 case lookup t x i cm =>
  show lx E o' e' t x i cm = lx E o e t x i cm;have h1:lx E o' e' t x i cm = lx E o' e t x i cm:=by unfold lx;rw [hx x bvf,hx i bvf]
  rw [h1];refine afx fun k hk=>ho k ?_;simp only [da,Op.operands,bse] at hk ⊢;exact brz _ hk
 case index t x i =>
  show za E e' t x i = za E e t x i;unfold za;rw [hx x bvf,hx i bvf]
 case binOp op t x y ty =>
  have h1:a8x E ex e' op t x y = a8x E ex e op t x y:=by
   unfold a8x;rw [hx x bvf,hx y bvf]
  have h2:vw E e' op t x y = vw E e op t x y:=by
   unfold vw;rw [hx x bvf]
  have h3:lh E o' e' op t x y = lh E o e op t x y:=by
   have h1:lh E o' e' op t x y = lh E o' e op t x y:=by unfold lh;rw [hx x bvf]
   rw [h1];refine ai4 fun k hk=>ho k ?_;simp only [da,Op.operands,bse] at hk ⊢;exact brz _ hk
  simp only [hq];rw [h1,h2,h3]
 case unOp op t x =>
  show aho ex e' op x = aho ex e op x;unfold aho;rw [hx x bvf]
 case convert src dst x =>
  show a3d E ex e' src dst x = a3d E ex e src dst x;unfold a3d;rw [hx x bvf]
 case extract x i =>
  show ug e' x i = ug e x i;unfold ug;rw [hx x bvf]
 case slice t x lo hi mx =>
  have e0:=hx x bvf;have e1:=o8 (e:=e) (e':=e') (x:=lo) (fun y hy=>hx y (by simp [Op.operands];simp at hy;simp [hy]));have e2:=o8 (e:=e) (e':=e') (x:=hi) (fun y hy=>hx y (by simp [Op.operands];simp at hy;simp [hy]));have e3:=o8 (e:=e) (e':=e') (x:=mx) (fun y hy=>hx y (by simp [Op.operands];simp at hy;simp [hy]))
  have h1:mb E e' t x lo hi mx = mb E e t x lo hi mx:=by
   unfold mb;rw [e0,e1,e2,e3]
  have h2:a8i E o' e' t x lo hi mx = a8i E o e t x lo hi mx:=by
   unfold a8i;rw [e0,e1,e2,e3]
   cases E t with
   | none=>rfl
   | some ti =>
    dsimp only;cases ti.k <;> try rfl
    rename_i el;dsimp only
    cases E el with
    | none=>rfl
    | some ei =>
     dsimp only
     cases ji e lo with
     | none=>rfl
     | some l =>
      cases ji e hi with
      | none=>rfl
      | some hh =>
       cases ji e mx with
       | none=>rfl
       | some m =>
        dsimp only;exact ais (G:=id) (F:=fun o h=>zx o ei.size l hh m h) (fun h hh=>ao9 hh) (l:=(Op.slice t x lo hi mx).operands.toList) bvf ho
  simp only [hq];rw [h1,h2]
 case makeFunc fn first caps =>
  show a2n e' fn first.toList caps.toList = a2n e fn first.toList caps.toList
  unfold a2n;rw [aal (l:=caps.toList) (fun y hy=>hx y (by simp [Op.operands];simp at hy;exact .inr hy)),aam (l:=caps.toList) (fun y hy=>hx y (by simp [Op.operands];simp at hy;exact .inr hy))];split
  · rfl
  · rename_i f x hf
    rw [hx x (by simp [Op.operands];left;rw [<- Array.mem_toList_iff,hf];simp)]
  rfl
 case build t parts =>
  show zc E e' t parts.toList = zc E e t parts.toList;have hf:∀ places cells,j0 e' places cells parts.toList = j0 e places cells parts.toList:=fun places cells=>a1u fun x hm=>hx x (by simpa [Op.operands] using hm);unfold zc;simp only [hf]
 case call c =>
  simp only [hq]
  cases hc:c.callee with
  | value f=>rfl
  | invoke r m=>rfl
  | builtin b =>
   simp only [Op.operands,Call.operands,hc] at hx ho;have h1:∀ x ∈ c.args.toList,e' x = e x:=fun x hm=>hx x (by simpa using hm);have h2:∀ k ∈ da e c.args.toList,o' k = o k:=fun k hk=>ho k (by simpa using hk);dsimp only;rw [adb h1,ai1 h1 h2]
variable {id:Nat}
def b2n (hx:∀ x ∈ op.operands,e' x = e x):ha E e' id op = ha E e id op:=by
 cases op <;> simp only [ha] <;> simp only [Op.operands] at hx
 case box t x=>rw [hx x bvd]
 case buildSlice t n parts =>
  have hf:∀ sz cells,a9b e' sz n parts.toList cells = a9b e sz n parts.toList cells:=fun sz cells=>by
   unfold a9b;exact a1u fun x hm=>hx x (by simpa using hm)
  simp only [hf]
 case makeSlice t l c=>rw [hx l bvd,hx c bvd]
def aka {y:Operand} (ho:∀ k ∈ da e [x,y],o' k = o k):mc E o' e t x y = mc E o e t x y:=by
 unfold mc
 cases E t with
 | none=>rfl
 | some i =>
  cases hv:e y with
  | none=>rfl
  | some rv =>
   cases rv with
   | tup l=>rfl
   | v cv =>
    cases hex:e x with
    | none=>rfl
    | some r =>
     cases r with
     | tup l=>rfl
     | v cc =>
      cases cc with
      | agg l=>rfl
      | one h =>
       cases h with
       | p x=>cases x <;> rfl
       | ref id n=>rfl
       | ptr id off=>dsimp only;rw [ho id (er hex bvd id (by simp [HR.ids,HC.ids,HV.ids]))]
       | eptr id n r j=>dsimp only;rw [ho id (er hex bvd id (by simp [HR.ids,HC.ids,HV.ids]))]
       | win id n i m=>rfl
       | clo g k caps=>rfl
       | row id i k=>rfl
       | rptr id i k r j=>dsimp only;rw [ho id (er hex bvd id (by simp [HR.ids,HC.ids,HV.ids]))]
       | pin id n ad cap=>rfl
def alq {kk:KK} {m:MK} {y:PV} (ho:∀ k ∈ h.ids,o' k = o k):a6j o' kk m y h = a6j o kk m y h:=by
 cases h with
 | ref id n=>simp only [a6j];rw [ho id bvk]
 | _=>rfl
def aad {v:Operand} (ho:∀ k ∈ da e [x],o' k = o k):mn E o' e t x i v = mn E o e t x i v:=by
 unfold mn
 cases E t with
 | none=>rfl
 | some ii =>
  dsimp only;cases ii.k <;> try rfl
  rename_i kt et;dsimp only
  cases E kt with
  | none=>rfl
  | some ki =>
   dsimp only
   cases hex:e x with
   | none=>rfl
   | some r =>
    cases r with
    | tup l=>rfl
    | v cc =>
     cases cc with
     | agg l=>rfl
     | one h =>
      dsimp only;have:=fun kk m y=>alq (o:=o) (o':=o') (h:=h) (kk:=kk) (m:=m) (y:=y) (fun k hk=>ho k (er hex bvd k hk));simp only [this]
def amu (hx:∀ x ∈ op.operands,e' x = e x) (ho:∀ k ∈ da e op.operands.toList,o' k = o k):hs E o' e' op = hs E o e op:=by
 cases op <;> try rfl
 case mapUpdate t x i v =>
  show mn E o' e' t x i v = mn E o e t x i v;have h1:mn E o' e' t x i v = mn E o' e t x i v:=by unfold mn;rw [hx x bvf,hx i bvf,hx v bvf]
  rw [h1];refine aad fun k hk=>ho k ?_;simp only [da,Op.operands,bse] at hk ⊢;exact brz _ hk
 case insert t x i v =>
  show mn E o' e' t x i v = mn E o e t x i v;have h1:mn E o' e' t x i v = mn E o' e t x i v:=by unfold mn;rw [hx x bvf,hx i bvf,hx v bvf]
  rw [h1];refine aad fun k hk=>ho k ?_;simp only [da,Op.operands,bse] at hk ⊢;exact brz _ hk
 case store t addr v =>
  show mc E o' e' t addr v = mc E o e t addr v;have h1:mc E o' e' t addr v = mc E o' e t addr v:=by unfold mc;rw [hx addr bvf,hx v bvf]
  rw [h1];exact aka (by simpa [Op.operands] using ho)
def aac (ho:∀ k ∈ h.ids,o' k = o k):yk o' id h = yk o id h:=by
 cases h with
 | p x =>
  cases x with
  | raw v =>
   cases v with
   | slice a n c=>cases n <;> rfl
   | _=>rfl
  | _=>rfl
 | ref id' n=>simp only [yk];rw [ho id' bvk]
 | _=>rfl
variable {wb:Bool}
def a2c {y:HV} (hid:o' id = o id) (ho:∀ k ∈ y.ids,o' k = o k):tc E o' id n wb el y = tc E o id n wb el y:=by
 simp only [tc];rw [hid,aac ho]
def ae2 (ho:∀ k ∈ h.ids,o' k = o k):a84 o' id h = a84 o id h:=by
 simp only [a84];rw [aac ho]
 cases h with
 | ref id' n=>simp only;rw [ho id' bvk]
 | _=>rfl
def alm {y:HV} (hid:o' id = o id) (ho:∀ k ∈ y.ids,o' k = o k):a00 E o' id n el y = a00 E o id n el y:=by
 simp only [a00];rw [hid,ae2 ho]
def avo {y:HV} (hid:o' id = o id) (ho:∀ k ∈ y.ids,o' k = o k):aat E o' id n el y = aat E o id n el y:=by
 simp only [aat];rw [hid,ae2 ho]
def ar5 {i k:Nat} {y:HV} (hid:o' id = o id):a5r E o' el id n i k y = a5r E o el id n i k y:=by
 unfold a5r;rw [hid]
def ax3 {z:List Value} (ho:∀ k ∈ h.ids,o' k = o k):ahs o' z n h = ahs o z n h:=by
 cases h with
 | win id n i m=>simp only [ahs];rw [ho id bvk]
 | _=>rfl
def aro {hy hx:HV} (h1:∀ k ∈ hx.ids,o' k = o k) (h2:∀ k ∈ hy.ids,o' k = o k):yp E o' id wb el hy hx = yp E o id wb el hy hx:=by
 cases hx with
 | win id1 n i k =>
  simp only [yp];exact ar5 (h1 id1 bvk)
 | pin id1 n ad cap =>
  simp only [yp];rw [a2c (o:=o) (o':=o') (h1 id1 bvk) h2]
 | ref id1 n =>
  simp only [yp];rw [a2c (o:=o) (o':=o') (h1 id1 bvk) h2,alm (o:=o) (o':=o') (h1 id1 bvk) h2,avo (o:=o) (o':=o') (h1 id1 bvk) h2]
 | p px =>
  cases px with
  | sl n sz cl f =>
   cases cl with
   | false=>rfl
   | true =>
    simp only [yp]
    cases E el with
    | none=>rfl
    | some ei =>
     dsimp only
     rw [a2c (o:=fun k=>if k = id then some (a7.arr false ei.size el n f) else o k) (o':=fun k=>if k = id then some (a7.arr false ei.size el n f) else o' k) bvd (fun k hk=>by
      try dsimp only
      split
      · rfl
      exact h2 k hk)]
  | _=>rfl
 | _=>rfl
def arm {x y:Option HR} (hx:∀ r,x = some r -> ∀ k ∈ r.ids,o' k = o k) (hy:∀ r,y = some r -> ∀ k ∈ r.ids,o' k = o k):
 a9m E o' id wb t x y = a9m E o id wb t x y:=by
 unfold a9m
 cases E t with
 | none=>rfl
 | some i =>
  dsimp only;cases i.k <;> try rfl
  rename_i el
  cases x with
  | none=>rfl
  | some rx =>
   cases rx with
   | tup l=>rfl
   | v cx =>
    cases cx with
    | agg l=>rfl
    | one hxv =>
     cases y with
     | none=>rfl
     | some ry =>
      cases ry with
      | tup l=>rfl
      | v cy =>
       cases cy with
       | agg l=>rfl
       | one hyv=>exact aro (hx _ rfl) (hy _ rfl)
def b0t (hx:∀ x ∈ op.operands,e' x = e x) (ho:∀ k ∈ da e op.operands.toList,o' k = o k):hap E o' e' id wb op = hap E o e id wb op:=by
 cases op <;> try rfl
 case call c =>
  unfold hap;dsimp only;split
  · rename_i hc
    simp only [Op.operands,Call.operands,hc] at hx ho;have h1:∀ x ∈ c.args.toList,e' x = e x:=fun x hm=>hx x (by simpa using hm);have h2:∀ k ∈ da e c.args.toList,o' k = o k:=fun k hk=>ho k (by simpa using hk);generalize c.args.toList = l at h1 h2;unfold a88;split
    · rename_i x y t t' _
      split
      · rw [h1 x bvd,h1 y bvd]
        exact arm (fun r hr k hk=>h2 k (er hr bvd k hk)) (fun r hr k hk=>h2 k (er hr bvd k hk))
      rfl
    rfl
  · rename_i hc
    simp only [Op.operands,Call.operands,hc] at hx ho;have h1:∀ x ∈ c.args.toList,e' x = e x:=fun x hm=>hx x (by simpa using hm);have h2:∀ k ∈ da e c.args.toList,o' k = o k:=fun k hk=>ho k (by simpa using hk);generalize c.args.toList = l at h1 h2;unfold a04;split
    · rename_i x t _
      rw [h1 x bvd]
      cases E t with
      | none=>rfl
      | some ti =>
       dsimp only;cases ti.k <;> try rfl
       rename_i el;dsimp only
       cases E el with
       | none=>rfl
       | some ei =>
        dsimp only
        cases ei.zero with
        | none=>rfl
        | some z =>
         dsimp only;split
         · cases hex:e x with
           | none=>rfl
           | some r =>
            cases r with
            | tup l=>rfl
            | v cc =>
             cases cc with
             | agg l=>rfl
             | one hv=>exact ax3 fun k hk=>h2 k (er hex bvd k hk)
         rfl
    rfl
  rfl
def a9z (ho:∀ k ∈ h.ids,o' k = o k):a5m o' h = a5m o h:=by
 cases h with
 | ref id n=>simp only [a5m];rw [ho id bvk]
 | _=>rfl
end
end
end
end Go.Hx
