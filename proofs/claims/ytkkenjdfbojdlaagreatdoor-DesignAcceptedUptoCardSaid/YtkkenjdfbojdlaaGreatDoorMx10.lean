/- A part of the proof: Hx11. -/
import Derived.Test.YtkkenjdfbojdlaaGreatDoorMx09
set_option linter.all false
namespace Go.Hx
section
open Go.RowKit
section
variable {E:Env} {ex:Bool} {o o':b4} {e e':Ev}
section
variable {x:Operand}
def gh {r:HR} (hx:e x = some r):∀ {l:List Operand},x ∈ l -> ∀ k ∈ r.ids,k ∈ en e l
 | y :: l,hm,k,hk=>by
  rcases bok.1 hm with rfl | hm
  · simp only [en,hx];exact boq _ hk
  simp only [en];exact bos _ (gh hx hm k hk)
def tv:∀ {l:List Operand},(∀ x ∈ l,e' x = e x) -> en e' l = en e l
 | [],_=>rfl
 | x :: l,h=>by
  simp only [en];rw [h x bst,tv fun y hy=>h y (by simp [hy])]
def bt1 {p:Prop} (h:p:=by simp [HV.ids]):p:=h
variable {h:HV}
def a2f (ho:∀ k ∈ h.ids,o' k = o k):tgt o' h = tgt o h:=by
 cases h with
 | p x=>cases x <;> rfl
 | ref id n=>rfl
 | ptr id off=>simp only [tgt];rw [ho id bt1]
 | eptr id n i j=>simp only [tgt];rw [ho id bt1]
 | win id n i m=>rfl
 | clo g k caps=>rfl
 | row id i k=>rfl
 | rptr id i k r j=>simp only [tgt];rw [ho id bt1]
 | pin id n ad cap=>rfl
def a34 {places:List (Nat × Nat)}:∀ {parts:List (Nat × Operand)} {cells:List HV},(∀ x ∈ parts.map (·.2),e' x = e x) -> jd e' places cells parts = jd e places cells parts
 | [],_,_=>rfl
 | (i,x) :: r,cells,h=>by
  have hx:=h x bst;have ih:∀ cells,jd e' places cells r = jd e places cells r:=fun cells=>a34 fun y hy=>h y (by simp at hy ⊢;exact .inr hy);simp only [jd,hx,ih]
def aba:∀ {l:List Operand},(∀ x ∈ l,e' x = e x) -> a26 e' l = a26 e l
 | [],_=>rfl
 | x :: l,h=>by
  simp only [a26];rw [h x bst,aba fun y hy=>h y (by simp [hy])]
def ab5:∀ {l:List Operand},(∀ x ∈ l,e' x = e x) -> a1w e' l = a1w e l
 | [],_=>rfl
 | x :: l,h=>by
  simp only [a1w];rw [h x bst,ab5 fun y hy=>h y (by simp [hy])]
def p7 {x:Option Operand} (h:∀ y ∈ x.toList,e' y = e y):jt e' x = jt e x:=by
 cases x with
 | none=>rfl
 | some y=>simp only [jt];rw [h y bst]
def ads {b:Builtin} {args:List Operand} {tys:List TypeId} (h:∀ x ∈ args,e' x = e x):vq E e' b args tys = vq E e b args tys:=by
 unfold vq;split
 · rename_i x t r
   rw [h x bst]
 · rename_i x y
   rw [h x bst,h y bst]
 · rename_i x y
   rw [h x bst,h y bst]
 rfl
def avm (ho:∀ k ∈ h.ids,o' k = o k):a7y o' h = a7y o h:=by
 cases h with
 | ref id n=>simp only [a7y];rw [ho id bt1]
 | win id n i m=>simp only [a7y];rw [ho id bt1]
 | row id i k=>simp only [a7y];rw [ho id bt1]
 | _=>rfl
variable {n:Nat}
def avf {i:Int} (ho:∀ k ∈ h.ids,o' k = o k):ad7 o' n i h = ad7 o n i h:=by
 cases h with
 | ref id n=>simp only [ad7];rw [ho id bt1]
 | win id n i m=>simp only [ad7];rw [ho id bt1]
 | row id i k=>simp only [ad7];rw [ho id bt1]
 | p x=>cases x <;> rfl
 | _=>rfl
def apv {x y z:Option Int} (ho:∀ k ∈ h.ids,o' k = o k):a11 o' n x y z h = a11 o n x y z h:=by
 cases h with
 | ref id n=>simp only [a11];rw [ho id bt1]
 | win id n i m=>simp only [a11];rw [ho id bt1]
 | _=>rfl
def aic {l:List Operand} {F:b4 -> HV -> Option Out} {α:Type} {d:α} {G:Option Out -> α} (hF:∀ h:HV,(∀ k ∈ h.ids,o' k = o k) -> F o' h = F o h) (hl:x ∈ l) (ho:∀ k ∈ en e l,o' k = o k):
 (match e x with | some (.v (.one h))=>G (F o' h) | _=>d) = (match e x with | some (.v (.one h))=>G (F o h) | _=>d):=by
 cases hex:e x with
 | none=>rfl
 | some r =>
  cases r with
  | tup l=>rfl
  | v cc =>
   cases cc with
   | agg l=>rfl
   | one h =>
    dsimp only;rw [hF h fun k hk=>ho k (gh hex hl k hk)]
def ai4 {b:Builtin} {args:List Operand} {tys:List TypeId} (h:∀ x ∈ args,e' x = e x) (ho:∀ k ∈ en e args,o' k = o k):xo E o' e' b args tys = xo E o e b args tys:=by
 unfold xo;split
 · rename_i x t r
   rw [h x bst]
   cases E t with
   | none=>rfl
   | some ti =>
    dsimp only;cases ti.k <;> try rfl
    exact aic (G:=id) (F:=a7y) (fun h hh=>avm hh) bst ho
 rfl
def aqh (ho:∀ k ∈ en e [x],o' k = o k):uc o' e x = uc o e x:=by
 unfold uc
 cases hex:e x with
 | none=>rfl
 | some r =>
  cases r with
  | tup l=>rfl
  | v cc =>
   cases cc with
   | agg l=>rfl
   | one h =>
    have:=a2f (o:=o) (o':=o') (h:=h) (fun k hk=>ho k (gh hex bst k hk))
    cases h with
    | p x=>cases x <;> rfl
    | ref id n=>rfl
    | ptr id off=>dsimp only;rw [this]
    | eptr id n i j=>dsimp only;rw [this]
    | win id n i m=>rfl
    | clo g k caps=>rfl
    | row id i k=>rfl
    | rptr id i k r j=>dsimp only;rw [this]
    | pin id n ad cap=>rfl
variable {t:TypeId}
def aox (ho:∀ k ∈ en e [x],o' k = o k):pg E o' e t x = pg E o e t x:=by
 unfold pg
 cases E t with
 | none=>rfl
 | some i =>
  dsimp only
  cases hex:e x with
  | none=>rfl
  | some r =>
   cases r with
   | tup l=>rfl
   | v cc =>
    cases cc with
    | agg l=>rfl
    | one h =>
     dsimp only;rw [a2f (o:=o) (o':=o') (h:=h) (fun k hk=>ho k (gh hex bst k hk))]
def aar {k:Nat} (ho:∀ k ∈ en e [x],o' k = o k):gw E o' e t x k = gw E o e t x k:=by
 unfold gw
 cases E t with
 | none=>rfl
 | some i =>
  dsimp only;cases i.k <;> try rfl
  rename_i fs;dsimp only
  cases fs[k]? with
  | none=>rfl
  | some q =>
   obtain ⟨off,ft,bl⟩:=q;dsimp only
   cases E ft with
   | none=>rfl
   | some fi =>
    dsimp only
    cases hex:e x with
    | none=>rfl
    | some r =>
     cases r with
     | tup l=>rfl
     | v cc =>
      cases cc with
      | agg l=>rfl
      | one h =>
       dsimp only;rw [a2f (o:=o) (o':=o') (h:=h) (fun k hk=>ho k (gh hex bst k hk))]
variable {el:TypeId} {i:Operand}
def acp {len:Nat} (ho:∀ k ∈ en e [x],o' k = o k):pz E o' e len el x i = pz E o e len el x i:=by
 unfold pz
 cases E el with
 | none=>rfl
 | some ei =>
  dsimp only
  cases hex:e x with
  | none=>rfl
  | some r =>
   cases r with
   | tup l=>rfl
   | v cc =>
    cases cc with
    | agg l=>rfl
    | one h =>
     dsimp only;rw [a2f (o:=o) (o':=o') (h:=h) (fun k hk=>ho k (gh hex bst k hk))]
def aau (ho:∀ k ∈ en e [x],o' k = o k):iu E o' e t x i = iu E o e t x i:=by
 unfold iu
 cases E t with
 | none=>rfl
 | some ii =>
  dsimp only;cases ii.k <;> try rfl
  case array len el=>exact acp ho
  rename_i el;dsimp only
  cases E el with
  | none=>rfl
  | some ei =>
   dsimp only
   cases hex:e x with
   | none=>rfl
   | some r =>
    cases r with
    | tup l=>rfl
    | v cc =>
     cases cc with
     | agg l=>rfl
     | one h =>
      dsimp only;have:=fun iv=>avf (o:=o) (o':=o') (h:=h) (n:=ei.size) (i:=iv) (fun k hk=>ho k (gh hex bst k hk));simp only [this]
def aqp {kk:KK} {m:MK} {z:Value} {cm:Bool} (ho:∀ k ∈ h.ids,o' k = o k):aeh o' kk m z cm h = aeh o kk m z cm h:=by
 cases h with
 | ref id n=>simp only [aeh];rw [ho id bt1]
 | _=>rfl
def ai6 {cm:Bool} (ho:∀ k ∈ en e [x],o' k = o k):md E o' e t x i cm = md E o e t x i cm:=by
 unfold md
 cases E t with
 | none=>rfl
 | some ii =>
  dsimp only;cases ii.k <;> try rfl
  rename_i kt et;dsimp only
  cases auk E kt et with
  | none=>rfl
  | some q =>
   obtain ⟨kk,z⟩:=q;dsimp only
   cases hex:e x with
   | none=>rfl
   | some r =>
    cases r with
    | tup l=>rfl
    | v cc =>
     cases cc with
     | agg l=>rfl
     | one h =>
      dsimp only;have:=fun m=>aqp (o:=o) (o':=o') (h:=h) (kk:=kk) (m:=m) (z:=z) (cm:=cm) (fun k hk=>ho k (gh hex bst k hk));simp only [this]
def bsw {p:Prop} (h:p:=by simp [Op.operands]):p:=h
variable {op:Op}
def b4f (hx:∀ x ∈ op.operands,e' x = e x) (ho:∀ k ∈ en e op.operands.toList,o' k = o k):hq E ex o' e' op = hq E ex o e op:=by
 cases op <;> try rfl
 case move x=>show Option.map _ (e' x) = Option.map _ (e x);rw [hx x bsw]
 case assign x=>show Option.map _ (e' x) = Option.map _ (e x);rw [hx x bsw]
 case pick c x y =>
  show a3x e' c x y = a3x e c x y;unfold a3x;rw [hx c bsw,hx x bsw,hx y bsw]
 case nilCheck x =>
  show uc o' e' x = uc o e x;have h1:uc o' e' x = uc o' e x:=by unfold uc;rw [hx x bsw]
  rw [h1];exact aqh (by simpa [Op.operands] using ho)
 case load t x =>
  show pg E o' e' t x = pg E o e t x;have h1:pg E o' e' t x = pg E o' e t x:=by unfold pg;rw [hx x bsw]
  rw [h1];exact aox (by simpa [Op.operands] using ho)
 case fieldAddr t x k =>
  show gw E o' e' t x k = gw E o e t x k;have h1:gw E o' e' t x k = gw E o' e t x k:=by unfold gw;rw [hx x bsw]
  rw [h1];exact aar (by simpa [Op.operands] using ho)
 case field t x k =>
  show a0m E e' t x k = a0m E e t x k;unfold a0m;rw [hx x bsw]
 case indexAddr t x i =>
  show iu E o' e' t x i = iu E o e t x i;have h1:iu E o' e' t x i = iu E o' e t x i:=by unfold iu pz;rw [hx x bsw,hx i bsw]
  rw [h1];refine aau fun k hk=>ho k ?_;simp only [en,Op.operands,bpd] at hk ⊢;exact boq _ hk
 case lookup t x i cm =>
  show md E o' e' t x i cm = md E o e t x i cm;have h1:md E o' e' t x i cm = md E o' e t x i cm:=by unfold md;rw [hx x bsw,hx i bsw]
  rw [h1];refine ai6 fun k hk=>ho k ?_;simp only [en,Op.operands,bpd] at hk ⊢;exact boq _ hk
 case index t x i =>
  show a0e E e' t x i = a0e E e t x i;unfold a0e;rw [hx x bsw,hx i bsw]
 case binOp op t x y ty =>
  have h1:a9r E ex e' op t x y = a9r E ex e op t x y:=by
   unfold a9r;rw [hx x bsw,hx y bsw]
  have h2:xx E e' op t x y = xx E e op t x y:=by
   unfold xx;rw [hx x bsw]
  simp only [hq];rw [h1,h2]
 case unOp op t x =>
  show agw ex e' op x = agw ex e op x;unfold agw;rw [hx x bsw]
 case convert src dst x =>
  show a4b E ex e' src dst x = a4b E ex e src dst x;unfold a4b;rw [hx x bsw]
 case extract x i =>
  show vm e' x i = vm e x i;unfold vm;rw [hx x bsw]
 case slice t x lo hi mx =>
  have e0:=hx x bsw;have e1:=p7 (e:=e) (e':=e') (x:=lo) (fun y hy=>hx y (by simp [Op.operands];simp at hy;simp [hy]));have e2:=p7 (e:=e) (e':=e') (x:=hi) (fun y hy=>hx y (by simp [Op.operands];simp at hy;simp [hy]));have e3:=p7 (e:=e) (e':=e') (x:=mx) (fun y hy=>hx y (by simp [Op.operands];simp at hy;simp [hy]))
  have h1:n7 E e' t x lo hi mx = n7 E e t x lo hi mx:=by
   unfold n7;rw [e0,e1,e2,e3]
  have h2:a9g E o' e' t x lo hi mx = a9g E o e t x lo hi mx:=by
   unfold a9g;rw [e0,e1,e2,e3]
   cases E t with
   | none=>rfl
   | some ti =>
    dsimp only;cases ti.k <;> try rfl
    rename_i el;dsimp only
    cases E el with
    | none=>rfl
    | some ei =>
     dsimp only
     cases jt e lo with
     | none=>rfl
     | some l =>
      cases jt e hi with
      | none=>rfl
      | some hh =>
       cases jt e mx with
       | none=>rfl
       | some m =>
        dsimp only;exact aic (G:=id) (F:=fun o h=>a11 o ei.size l hh m h) (fun h hh=>apv hh) (l:=(Op.slice t x lo hi mx).operands.toList) bsw ho
  simp only [hq];rw [h1,h2]
 case makeFunc fn first caps =>
  show a4m e' fn first.toList caps.toList = a4m e fn first.toList caps.toList
  unfold a4m;rw [aba (l:=caps.toList) (fun y hy=>hx y (by simp [Op.operands];simp at hy;exact .inr hy)),ab5 (l:=caps.toList) (fun y hy=>hx y (by simp [Op.operands];simp at hy;exact .inr hy))];split
  · rfl
  · rename_i f x hf
    rw [hx x (by simp [Op.operands];left;rw [<- Array.mem_toList_iff,hf];simp)]
  rfl
 case build t parts =>
  show a0d E e' t parts.toList = a0d E e t parts.toList;have hf:∀ places cells,jd e' places cells parts.toList = jd e places cells parts.toList:=fun places cells=>a34 fun x hm=>hx x (by simpa [Op.operands] using hm);unfold a0d;simp only [hf]
 case call c =>
  simp only [hq]
  cases hc:c.callee with
  | value f=>rfl
  | invoke r m=>rfl
  | builtin b =>
   simp only [Op.operands,Call.operands,hc] at hx ho;have h1:∀ x ∈ c.args.toList,e' x = e x:=fun x hm=>hx x (by simpa using hm);have h2:∀ k ∈ en e c.args.toList,o' k = o k:=fun k hk=>ho k (by simpa using hk);dsimp only;rw [ads h1,ai4 h1 h2]
variable {id:Nat}
def b2x (hx:∀ x ∈ op.operands,e' x = e x):ha E e' id op = ha E e id op:=by
 cases op <;> simp only [ha] <;> simp only [Op.operands] at hx
 case box t x=>rw [hx x bst]
 case buildSlice t n parts =>
  have hf:∀ sz cells,a9o e' sz n parts.toList cells = a9o e sz n parts.toList cells:=fun sz cells=>by
   unfold a9o;exact a34 fun x hm=>hx x (by simpa using hm)
  simp only [hf]
 case makeSlice t l c=>rw [hx l bst,hx c bst]
def ak6 {y:Operand} (ho:∀ k ∈ en e [x,y],o' k = o k):n8 E o' e t x y = n8 E o e t x y:=by
 unfold n8
 cases E t with
 | none=>rfl
 | some i =>
  cases hv:e y with
  | none=>rfl
  | some rv =>
   cases rv with
   | tup l=>rfl
   | v cv =>
    cases hex:e x with
    | none=>rfl
    | some r =>
     cases r with
     | tup l=>rfl
     | v cc =>
      cases cc with
      | agg l=>rfl
      | one h =>
       cases h with
       | p x=>cases x <;> rfl
       | ref id n=>rfl
       | ptr id off=>dsimp only;rw [ho id (gh hex bst id (by simp [HR.ids,HC.ids,HV.ids]))]
       | eptr id n r j=>dsimp only;rw [ho id (gh hex bst id (by simp [HR.ids,HC.ids,HV.ids]))]
       | win id n i m=>rfl
       | clo g k caps=>rfl
       | row id i k=>rfl
       | rptr id i k r j=>dsimp only;rw [ho id (gh hex bst id (by simp [HR.ids,HC.ids,HV.ids]))]
       | pin id n ad cap=>rfl
def ap6 {kk:KK} {m:MK} {y:PV} (ho:∀ k ∈ h.ids,o' k = o k):a8r o' kk m y h = a8r o kk m y h:=by
 cases h with
 | ref id n=>simp only [a8r];rw [ho id bt1]
 | _=>rfl
def ab4 {v:Operand} (ho:∀ k ∈ en e [x],o' k = o k):nf E o' e t x i v = nf E o e t x i v:=by
 unfold nf
 cases E t with
 | none=>rfl
 | some ii =>
  dsimp only;cases ii.k <;> try rfl
  rename_i kt et;dsimp only
  cases E kt with
  | none=>rfl
  | some ki =>
   dsimp only
   cases hex:e x with
   | none=>rfl
   | some r =>
    cases r with
    | tup l=>rfl
    | v cc =>
     cases cc with
     | agg l=>rfl
     | one h =>
      dsimp only;have:=fun kk m y=>ap6 (o:=o) (o':=o') (h:=h) (kk:=kk) (m:=m) (y:=y) (fun k hk=>ho k (gh hex bst k hk));simp only [this]
def aqe (hx:∀ x ∈ op.operands,e' x = e x) (ho:∀ k ∈ en e op.operands.toList,o' k = o k):hs E o' e' op = hs E o e op:=by
 cases op <;> try rfl
 case mapUpdate t x i v =>
  show nf E o' e' t x i v = nf E o e t x i v;have h1:nf E o' e' t x i v = nf E o' e t x i v:=by unfold nf;rw [hx x bsw,hx i bsw,hx v bsw]
  rw [h1];refine ab4 fun k hk=>ho k ?_;simp only [en,Op.operands,bpd] at hk ⊢;exact boq _ hk
 case insert t x i v =>
  show nf E o' e' t x i v = nf E o e t x i v;have h1:nf E o' e' t x i v = nf E o' e t x i v:=by unfold nf;rw [hx x bsw,hx i bsw,hx v bsw]
  rw [h1];refine ab4 fun k hk=>ho k ?_;simp only [en,Op.operands,bpd] at hk ⊢;exact boq _ hk
 case store t addr v =>
  show n8 E o' e' t addr v = n8 E o e t addr v;have h1:n8 E o' e' t addr v = n8 E o' e t addr v:=by unfold n8;rw [hx addr bsw,hx v bsw]
  rw [h1];exact ak6 (by simpa [Op.operands] using ho)
def ab1 (ho:∀ k ∈ h.ids,o' k = o k):a04 o' id h = a04 o id h:=by
 cases h with
 | p x =>
  cases x with
  | raw v =>
   cases v with
   | slice a n c=>cases n <;> rfl
   | _=>rfl
  | _=>rfl
 | ref id' n=>simp only [a04];rw [ho id' bt1]
 | _=>rfl
variable {wb:Bool}
def a3b {y:HV} (hid:o' id = o id) (ho:∀ k ∈ y.ids,o' k = o k):ub E o' id n wb el y = ub E o id n wb el y:=by
 simp only [ub];rw [hid,ab1 ho]
def af4 (ho:∀ k ∈ h.ids,o' k = o k):a8e o' id h = a8e o id h:=by
 simp only [a8e];rw [ab1 ho]
 cases h with
 | ref id' n=>simp only;rw [ho id' bt1]
 | _=>rfl
def alr {y:HV} (hid:o' id = o id) (ho:∀ k ∈ y.ids,o' k = o k):a1l E o' id n el y = a1l E o id n el y:=by
 simp only [a1l];rw [hid,af4 ho]
def awj {y:HV} (hid:o' id = o id) (ho:∀ k ∈ y.ids,o' k = o k):ad0 E o' id n el y = ad0 E o id n el y:=by
 simp only [ad0];rw [hid,af4 ho]
def aqj {i k:Nat} {y:HV} (hid:o' id = o id):a5h E o' el id n i k y = a5h E o el id n i k y:=by
 unfold a5h;rw [hid]
def aur {z:List Value} (ho:∀ k ∈ h.ids,o' k = o k):ahv o' z n h = ahv o z n h:=by
 cases h with
 | win id n i m=>simp only [ahv];rw [ho id bt1]
 | _=>rfl
def ar3 {hy hx:HV} (h1:∀ k ∈ hx.ids,o' k = o k) (h2:∀ k ∈ hy.ids,o' k = o k):a07 E o' id wb el hy hx = a07 E o id wb el hy hx:=by
 cases hx with
 | win id1 n i k =>
  simp only [a07];exact aqj (h1 id1 bt1)
 | pin id1 n ad cap =>
  simp only [a07];rw [a3b (o:=o) (o':=o') (h1 id1 bt1) h2]
 | ref id1 n =>
  simp only [a07];rw [a3b (o:=o) (o':=o') (h1 id1 bt1) h2,alr (o:=o) (o':=o') (h1 id1 bt1) h2,awj (o:=o) (o':=o') (h1 id1 bt1) h2]
 | p px =>
  cases px with
  | sl n sz cl f =>
   cases cl with
   | false=>rfl
   | true =>
    simp only [a07]
    cases E el with
    | none=>rfl
    | some ei =>
     dsimp only
     rw [a3b (o:=fun k=>if k = id then some (a8.arr false ei.size el n f) else o k) (o':=fun k=>if k = id then some (a8.arr false ei.size el n f) else o' k) bst (fun k hk=>by
      try dsimp only
      split
      · rfl
      exact h2 k hk)]
  | _=>rfl
 | _=>rfl
def ar1 {x y:Option HR} (hx:∀ r,x = some r -> ∀ k ∈ r.ids,o' k = o k) (hy:∀ r,y = some r -> ∀ k ∈ r.ids,o' k = o k):
 a9d E o' id wb t x y = a9d E o id wb t x y:=by
 unfold a9d
 cases E t with
 | none=>rfl
 | some i =>
  dsimp only;cases i.k <;> try rfl
  rename_i el
  cases x with
  | none=>rfl
  | some rx =>
   cases rx with
   | tup l=>rfl
   | v cx =>
    cases cx with
    | agg l=>rfl
    | one hxv =>
     cases y with
     | none=>rfl
     | some ry =>
      cases ry with
      | tup l=>rfl
      | v cy =>
       cases cy with
       | agg l=>rfl
       | one hyv=>exact ar3 (hx _ rfl) (hy _ rfl)
def b0l (hx:∀ x ∈ op.operands,e' x = e x) (ho:∀ k ∈ en e op.operands.toList,o' k = o k):hap E o' e' id wb op = hap E o e id wb op:=by
 cases op <;> try rfl
 case call c =>
  unfold hap;dsimp only;split
  · rename_i hc
    simp only [Op.operands,Call.operands,hc] at hx ho;have h1:∀ x ∈ c.args.toList,e' x = e x:=fun x hm=>hx x (by simpa using hm);have h2:∀ k ∈ en e c.args.toList,o' k = o k:=fun k hk=>ho k (by simpa using hk);generalize c.args.toList = l at h1 h2;unfold aak;split
    · rename_i x y t t' _
      split
      · rw [h1 x bst,h1 y bst]
        exact ar1 (fun r hr k hk=>h2 k (gh hr bst k hk)) (fun r hr k hk=>h2 k (gh hr bst k hk))
      rfl
    rfl
  · rename_i hc
    simp only [Op.operands,Call.operands,hc] at hx ho;have h1:∀ x ∈ c.args.toList,e' x = e x:=fun x hm=>hx x (by simpa using hm);have h2:∀ k ∈ en e c.args.toList,o' k = o k:=fun k hk=>ho k (by simpa using hk);generalize c.args.toList = l at h1 h2;unfold a12;split
    · rename_i x t _
      rw [h1 x bst]
      cases E t with
      | none=>rfl
      | some ti =>
       dsimp only;cases ti.k <;> try rfl
       rename_i el;dsimp only
       cases E el with
       | none=>rfl
       | some ei =>
        dsimp only
        cases ei.zero with
        | none=>rfl
        | some z =>
         dsimp only;split
         · cases hex:e x with
           | none=>rfl
           | some r =>
            cases r with
            | tup l=>rfl
            | v cc =>
             cases cc with
             | agg l=>rfl
             | one hv=>exact aur fun k hk=>h2 k (gh hex bst k hk)
         rfl
    rfl
  rfl
def abg (ho:∀ k ∈ h.ids,o' k = o k):a5n o' h = a5n o h:=by
 cases h with
 | ref id n=>simp only [a5n];rw [ho id bt1]
 | _=>rfl
end
end
end
end Go.Hx
