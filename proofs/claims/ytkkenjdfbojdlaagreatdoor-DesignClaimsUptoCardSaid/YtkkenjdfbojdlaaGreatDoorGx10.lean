/- A part of the proof: Hx11. -/
import Derived.Test.YtkkenjdfbojdlaaGreatDoorGx09
set_option linter.all false
namespace Go.Hx
section
open Go.RowKit
section
variable {E:Env} {ex:Bool} {o o':b6} {e e':Ev}
section
variable {x:Operand}
theorem ff {r:HR} (hx:e x = some r):∀ {l:List Operand},x ∈ l -> ∀ k ∈ r.ids,k ∈ dv e l
 | y :: l,hm,k,hk=>by
  rcases bkx.1 hm with rfl | hm
  · simp only [dv,hx];exact bl2 _ hk
  simp only [dv];exact bl9 _ (ff hx hm k hk)
theorem qn:∀ {l:List Operand},(∀ x ∈ l,e' x = e x) -> dv e' l = dv e l
 | [],_=>rfl
 | x :: l,h=>by
  simp only [dv];rw [h x bow,qn fun y hy=>h y (by simp [hy])]
theorem bp1 {p:Prop} (h:p:=by simp [HV.ids]):p:=h
variable {h:HV}
theorem a0o (ho:∀ k ∈ h.ids,o' k = o k):tgt o' h = tgt o h:=by
 cases h with
 | p x=>cases x <;> rfl
 | ref id n=>rfl
 | ptr id off=>simp only [tgt];rw [ho id bp1]
 | eptr id n i j=>simp only [tgt];rw [ho id bp1]
 | win id n i m=>rfl
 | clo g k caps=>rfl
 | row id i k=>rfl
 | rptr id i k r j=>simp only [tgt];rw [ho id bp1]
 | pin id n ad cap=>rfl
theorem a11 {places:List (Nat × Nat)}:∀ {parts:List (Nat × Operand)} {cells:List HV},(∀ x ∈ parts.map (·.2),e' x = e x) -> ij e' places cells parts = ij e places cells parts
 | [],_,_=>rfl
 | (i,x) :: r,cells,h=>by
  have hx:=h x bow;have ih:∀ cells,ij e' places cells r = ij e places cells r:=fun cells=>a11 fun y hy=>h y (by simp at hy ⊢;exact .inr hy);simp only [ij,hx,ih]
theorem a94:∀ {l:List Operand},(∀ x ∈ l,e' x = e x) -> a0q e' l = a0q e l
 | [],_=>rfl
 | x :: l,h=>by
  simp only [a0q];rw [h x bow,a94 fun y hy=>h y (by simp [hy])]
theorem a93:∀ {l:List Operand},(∀ x ∈ l,e' x = e x) -> a0e e' l = a0e e l
 | [],_=>rfl
 | x :: l,h=>by
  simp only [a0e];rw [h x bow,a93 fun y hy=>h y (by simp [hy])]
theorem n5 {x:Option Operand} (h:∀ y ∈ x.toList,e' y = e y):j5 e' x = j5 e x:=by
 cases x with
 | none=>rfl
 | some y=>simp only [j5];rw [h y bow]
theorem abh {b:Builtin} {args:List Operand} {tys:List TypeId} (h:∀ x ∈ args,e' x = e x):se E e' b args tys = se E e b args tys:=by
 unfold se;split
 · rename_i x t r
   rw [h x bow]
 · rename_i x y
   rw [h x bow,h y bow]
 · rename_i x y
   rw [h x bow,h y bow]
 rfl
theorem aqe (ho:∀ k ∈ h.ids,o' k = o k):a68 o' h = a68 o h:=by
 cases h with
 | ref id n=>simp only [a68];rw [ho id bp1]
 | win id n i m=>simp only [a68];rw [ho id bp1]
 | row id i k=>simp only [a68];rw [ho id bp1]
 | _=>rfl
variable {n:Nat}
theorem aq9 {i:Int} (ho:∀ k ∈ h.ids,o' k = o k):a9e o' n i h = a9e o n i h:=by
 cases h with
 | ref id n=>simp only [a9e];rw [ho id bp1]
 | win id n i m=>simp only [a9e];rw [ho id bp1]
 | row id i k=>simp only [a9e];rw [ho id bp1]
 | p x=>cases x <;> rfl
 | _=>rfl
theorem aj1 {x y z:Option Int} (ho:∀ k ∈ h.ids,o' k = o k):ym o' n x y z h = ym o n x y z h:=by
 cases h with
 | ref id n=>simp only [ym];rw [ho id bp1]
 | win id n i m=>simp only [ym];rw [ho id bp1]
 | _=>rfl
theorem aga {l:List Operand} {F:b6 -> HV -> Option Out} {α:Type} {d:α} {G:Option Out -> α} (hF:∀ h:HV,(∀ k ∈ h.ids,o' k = o k) -> F o' h = F o h) (hl:x ∈ l) (ho:∀ k ∈ dv e l,o' k = o k):
 (match e x with | some (.v (.one h))=>G (F o' h) | _=>d) = (match e x with | some (.v (.one h))=>G (F o h) | _=>d):=by
 cases hex:e x with
 | none=>rfl
 | some r =>
  cases r with
  | tup l=>rfl
  | v cc =>
   cases cc with
   | agg l=>rfl
   | one h =>
    dsimp only;rw [hF h fun k hk=>ho k (ff hex hl k hk)]
theorem ae6 {b:Builtin} {args:List Operand} {tys:List TypeId} (h:∀ x ∈ args,e' x = e x) (ho:∀ k ∈ dv e args,o' k = o k):ur E o' e' b args tys = ur E o e b args tys:=by
 unfold ur;split
 · rename_i x t r
   rw [h x bow]
   cases E t with
   | none=>rfl
   | some ti =>
    dsimp only;cases ti.k <;> try rfl
    exact aga (G:=id) (F:=a68) (fun h hh=>aqe hh) bow ho
 rfl
theorem amz (ho:∀ k ∈ dv e [x],o' k = o k):qx o' e x = qx o e x:=by
 unfold qx
 cases hex:e x with
 | none=>rfl
 | some r =>
  cases r with
  | tup l=>rfl
  | v cc =>
   cases cc with
   | agg l=>rfl
   | one h =>
    have:=a0o (o:=o) (o':=o') (h:=h) (fun k hk=>ho k (ff hex bow k hk))
    cases h with
    | p x=>cases x <;> rfl
    | ref id n=>rfl
    | ptr id off=>dsimp only;rw [this]
    | eptr id n i j=>dsimp only;rw [this]
    | win id n i m=>rfl
    | clo g k caps=>rfl
    | row id i k=>rfl
    | rptr id i k r j=>dsimp only;rw [this]
    | pin id n ad cap=>rfl
variable {t:TypeId}
theorem aj2 (ho:∀ k ∈ dv e [x],o' k = o k):mq E o' e t x = mq E o e t x:=by
 unfold mq
 cases E t with
 | none=>rfl
 | some i =>
  dsimp only
  cases hex:e x with
  | none=>rfl
  | some r =>
   cases r with
   | tup l=>rfl
   | v cc =>
    cases cc with
    | agg l=>rfl
    | one h =>
     dsimp only;rw [a0o (o:=o) (o':=o') (h:=h) (fun k hk=>ho k (ff hex bow k hk))]
theorem a8d {k:Nat} (ho:∀ k ∈ dv e [x],o' k = o k):fw E o' e t x k = fw E o e t x k:=by
 unfold fw
 cases E t with
 | none=>rfl
 | some i =>
  dsimp only;cases i.k <;> try rfl
  rename_i fs;dsimp only
  cases fs[k]? with
  | none=>rfl
  | some q =>
   obtain ⟨off,ft,bl⟩:=q;dsimp only
   cases E ft with
   | none=>rfl
   | some fi =>
    dsimp only
    cases hex:e x with
    | none=>rfl
    | some r =>
     cases r with
     | tup l=>rfl
     | v cc =>
      cases cc with
      | agg l=>rfl
      | one h =>
       dsimp only;rw [a0o (o:=o) (o':=o') (h:=h) (fun k hk=>ho k (ff hex bow k hk))]
variable {el:TypeId} {i:Operand}
theorem aah {len:Nat} (ho:∀ k ∈ dv e [x],o' k = o k):nf E o' e len el x i = nf E o e len el x i:=by
 unfold nf
 cases E el with
 | none=>rfl
 | some ei =>
  dsimp only
  cases hex:e x with
  | none=>rfl
  | some r =>
   cases r with
   | tup l=>rfl
   | v cc =>
    cases cc with
    | agg l=>rfl
    | one h =>
     dsimp only;rw [a0o (o:=o) (o':=o') (h:=h) (fun k hk=>ho k (ff hex bow k hk))]
theorem a8f (ho:∀ k ∈ dv e [x],o' k = o k):gn E o' e t x i = gn E o e t x i:=by
 unfold gn
 cases E t with
 | none=>rfl
 | some ii =>
  dsimp only;cases ii.k <;> try rfl
  case array len el=>exact aah ho
  rename_i el;dsimp only
  cases E el with
  | none=>rfl
  | some ei =>
   dsimp only
   cases hex:e x with
   | none=>rfl
   | some r =>
    cases r with
    | tup l=>rfl
    | v cc =>
     cases cc with
     | agg l=>rfl
     | one h =>
      dsimp only;have:=fun iv=>aq9 (o:=o) (o':=o') (h:=h) (n:=ei.size) (i:=iv) (fun k hk=>ho k (ff hex bow k hk));simp only [this]
theorem amo {kk:KK} {m:MK} {z:Value} {cm:Bool} (ho:∀ k ∈ h.ids,o' k = o k):abi o' kk m z cm h = abi o kk m z cm h:=by
 cases h with
 | ref id n=>simp only [abi];rw [ho id bp1]
 | _=>rfl
theorem ad6 {cm:Bool} (ho:∀ k ∈ dv e [x],o' k = o k):ke E o' e t x i cm = ke E o e t x i cm:=by
 unfold ke
 cases E t with
 | none=>rfl
 | some ii =>
  dsimp only;cases ii.k <;> try rfl
  rename_i kt et;dsimp only
  cases aqr E kt et with
  | none=>rfl
  | some q =>
   obtain ⟨kk,z⟩:=q;dsimp only
   cases hex:e x with
   | none=>rfl
   | some r =>
    cases r with
    | tup l=>rfl
    | v cc =>
     cases cc with
     | agg l=>rfl
     | one h =>
      dsimp only;have:=fun m=>amo (o:=o) (o':=o') (h:=h) (kk:=kk) (m:=m) (z:=z) (cm:=cm) (fun k hk=>ho k (ff hex bow k hk));simp only [this]
theorem bp0 {p:Prop} (h:p:=by simp [Op.operands]):p:=h
variable {op:Op}
theorem az7 (hx:∀ x ∈ op.operands,e' x = e x) (ho:∀ k ∈ dv e op.operands.toList,o' k = o k):hq E ex o' e' op = hq E ex o e op:=by
 cases op <;> try rfl
 case move x=>show Option.map _ (e' x) = Option.map _ (e x);rw [hx x bp0]
 case assign x=>show Option.map _ (e' x) = Option.map _ (e x);rw [hx x bp0]
 case pick c x y =>
  show a1g e' c x y = a1g e c x y;unfold a1g;rw [hx c bp0,hx x bp0,hx y bp0]
 case nilCheck x =>
  show qx o' e' x = qx o e x;have h1:qx o' e' x = qx o' e x:=by unfold qx;rw [hx x bp0]
  rw [h1];exact amz (by simpa [Op.operands] using ho)
 case load t x =>
  show mq E o' e' t x = mq E o e t x;have h1:mq E o' e' t x = mq E o' e t x:=by unfold mq;rw [hx x bp0]
  rw [h1];exact aj2 (by simpa [Op.operands] using ho)
 case fieldAddr t x k =>
  show fw E o' e' t x k = fw E o e t x k;have h1:fw E o' e' t x k = fw E o' e t x k:=by unfold fw;rw [hx x bp0]
  rw [h1];exact a8d (by simpa [Op.operands] using ho)
 case field t x k =>
  show xy E e' t x k = xy E e t x k;unfold xy;rw [hx x bp0]
 case indexAddr t x i =>
  show gn E o' e' t x i = gn E o e t x i;have h1:gn E o' e' t x i = gn E o' e t x i:=by unfold gn nf;rw [hx x bp0,hx i bp0]
  rw [h1];refine a8f fun k hk=>ho k ?_;simp only [dv,Op.operands,blq] at hk ⊢;exact bl2 _ hk
 case lookup t x i cm =>
  show ke E o' e' t x i cm = ke E o e t x i cm;have h1:ke E o' e' t x i cm = ke E o' e t x i cm:=by unfold ke;rw [hx x bp0,hx i bp0]
  rw [h1];refine ad6 fun k hk=>ho k ?_;simp only [dv,Op.operands,blq] at hk ⊢;exact bl2 _ hk
 case index t x i =>
  show y5 E e' t x i = y5 E e t x i;unfold y5;rw [hx x bp0,hx i bp0]
 case binOp op t x y ty =>
  have h1:a6q E ex e' op t x y = a6q E ex e op t x y:=by
   unfold a6q;rw [hx x bp0,hx y bp0]
  have h2:uo E e' op t x y = uo E e op t x y:=by
   unfold uo;rw [hx x bp0]
  simp only [hq];rw [h1,h2]
 case unOp op t x =>
  show adg ex e' op x = adg ex e op x;unfold adg;rw [hx x bp0]
 case convert src dst x =>
  show a2h E ex e' src dst x = a2h E ex e src dst x;unfold a2h;rw [hx x bp0]
 case extract x i =>
  show sj e' x i = sj e x i;unfold sj;rw [hx x bp0]
 case slice t x lo hi mx =>
  have e0:=hx x bp0;have e1:=n5 (e:=e) (e':=e') (x:=lo) (fun y hy=>hx y (by simp [Op.operands];simp at hy;simp [hy]));have e2:=n5 (e:=e) (e':=e') (x:=hi) (fun y hy=>hx y (by simp [Op.operands];simp at hy;simp [hy]));have e3:=n5 (e:=e) (e':=e') (x:=mx) (fun y hy=>hx y (by simp [Op.operands];simp at hy;simp [hy]))
  have h1:lm E e' t x lo hi mx = lm E e t x lo hi mx:=by
   unfold lm;rw [e0,e1,e2,e3]
  have h2:a6r E o' e' t x lo hi mx = a6r E o e t x lo hi mx:=by
   unfold a6r;rw [e0,e1,e2,e3]
   cases E t with
   | none=>rfl
   | some ti =>
    dsimp only;cases ti.k <;> try rfl
    rename_i el;dsimp only
    cases E el with
    | none=>rfl
    | some ei =>
     dsimp only
     cases j5 e lo with
     | none=>rfl
     | some l =>
      cases j5 e hi with
      | none=>rfl
      | some hh =>
       cases j5 e mx with
       | none=>rfl
       | some m =>
        dsimp only;exact aga (G:=id) (F:=fun o h=>ym o ei.size l hh m h) (fun h hh=>aj1 hh) (l:=(Op.slice t x lo hi mx).operands.toList) bp0 ho
  simp only [hq];rw [h1,h2]
 case makeFunc fn first caps =>
  show a1k e' fn first.toList caps.toList = a1k e fn first.toList caps.toList
  unfold a1k;rw [a94 (l:=caps.toList) (fun y hy=>hx y (by simp [Op.operands];simp at hy;exact .inr hy)),a93 (l:=caps.toList) (fun y hy=>hx y (by simp [Op.operands];simp at hy;exact .inr hy))];split
  · rfl
  · rename_i f x hf
    rw [hx x (by simp [Op.operands];left;rw [<- Array.mem_toList_iff,hf];simp)]
  rfl
 case build t parts =>
  show yc E e' t parts.toList = yc E e t parts.toList;have hf:∀ places cells,ij e' places cells parts.toList = ij e places cells parts.toList:=fun places cells=>a11 fun x hm=>hx x (by simpa [Op.operands] using hm);unfold yc;simp only [hf]
 case call c =>
  simp only [hq]
  cases hc:c.callee with
  | value f=>rfl
  | invoke r m=>rfl
  | builtin b =>
   simp only [Op.operands,Call.operands,hc] at hx ho;have h1:∀ x ∈ c.args.toList,e' x = e x:=fun x hm=>hx x (by simpa using hm);have h2:∀ k ∈ dv e c.args.toList,o' k = o k:=fun k hk=>ho k (by simpa using hk);dsimp only;rw [abh h1,ae6 h1 h2]
variable {id:Nat}
theorem b0c (hx:∀ x ∈ op.operands,e' x = e x):ha E e' id op = ha E e id op:=by
 cases op <;> simp only [ha] <;> simp only [Op.operands] at hx
 case box t x=>rw [hx x bow]
 case buildSlice t n parts =>
  have hf:∀ sz cells,a7w e' sz n parts.toList cells = a7w e sz n parts.toList cells:=fun sz cells=>by
   unfold a7w;exact a11 fun x hm=>hx x (by simpa using hm)
  simp only [hf]
 case makeSlice t l c=>rw [hx l bow,hx c bow]
theorem agx {y:Operand} (ho:∀ k ∈ dv e [x,y],o' k = o k):lj E o' e t x y = lj E o e t x y:=by
 unfold lj
 cases E t with
 | none=>rfl
 | some i =>
  cases hv:e y with
  | none=>rfl
  | some rv =>
   cases rv with
   | tup l=>rfl
   | v cv =>
    cases hex:e x with
    | none=>rfl
    | some r =>
     cases r with
     | tup l=>rfl
     | v cc =>
      cases cc with
      | agg l=>rfl
      | one h =>
       cases h with
       | p x=>cases x <;> rfl
       | ref id n=>rfl
       | ptr id off=>dsimp only;rw [ho id (ff hex bow id (by simp [HR.ids,HC.ids,HV.ids]))]
       | eptr id n r j=>dsimp only;rw [ho id (ff hex bow id (by simp [HR.ids,HC.ids,HV.ids]))]
       | win id n i m=>rfl
       | clo g k caps=>rfl
       | row id i k=>rfl
       | rptr id i k r j=>dsimp only;rw [ho id (ff hex bow id (by simp [HR.ids,HC.ids,HV.ids]))]
       | pin id n ad cap=>rfl
theorem alh {kk:KK} {m:MK} {y:PV} (ho:∀ k ∈ h.ids,o' k = o k):a4r o' kk m y h = a4r o kk m y h:=by
 cases h with
 | ref id n=>simp only [a4r];rw [ho id bp1]
 | _=>rfl
theorem an5 {v:Operand} (ho:∀ k ∈ dv e [x],o' k = o k):th E o' e t x i v = th E o e t x i v:=by
 unfold th
 cases E t with
 | none=>rfl
 | some ii =>
  dsimp only;cases ii.k <;> try rfl
  rename_i kt et;dsimp only
  cases E kt with
  | none=>rfl
  | some ki =>
   dsimp only
   cases hex:e x with
   | none=>rfl
   | some r =>
    cases r with
    | tup l=>rfl
    | v cc =>
     cases cc with
     | agg l=>rfl
     | one h =>
      dsimp only;have:=fun kk m y=>alh (o:=o) (o':=o') (h:=h) (kk:=kk) (m:=m) (y:=y) (fun k hk=>ho k (ff hex bow k hk));simp only [this]
theorem am6 (hx:∀ x ∈ op.operands,e' x = e x) (ho:∀ k ∈ dv e op.operands.toList,o' k = o k):hs E o' e' op = hs E o e op:=by
 cases op <;> try rfl
 case mapUpdate t x i v =>
  show th E o' e' t x i v = th E o e t x i v;have h1:th E o' e' t x i v = th E o' e t x i v:=by unfold th;rw [hx x bp0,hx i bp0,hx v bp0]
  rw [h1];refine an5 fun k hk=>ho k ?_;simp only [dv,Op.operands,blq] at hk ⊢;exact bl2 _ hk
 case store t addr v =>
  show lj E o' e' t addr v = lj E o e t addr v;have h1:lj E o' e' t addr v = lj E o' e t addr v:=by unfold lj;rw [hx addr bp0,hx v bp0]
  rw [h1];exact agx (by simpa [Op.operands] using ho)
theorem a8x (ho:∀ k ∈ h.ids,o' k = o k):xq o' id h = xq o id h:=by
 cases h with
 | p x =>
  cases x with
  | raw v =>
   cases v with
   | slice a n c=>cases n <;> rfl
   | _=>rfl
  | _=>rfl
 | ref id' n=>simp only [xq];rw [ho id' bp1]
 | _=>rfl
variable {wb:Bool}
theorem a0x {y:HV} (hid:o' id = o id) (ho:∀ k ∈ y.ids,o' k = o k):rz E o' id n wb el y = rz E o id n wb el y:=by
 simp only [rz];rw [hid,a8x ho]
theorem ach (ho:∀ k ∈ h.ids,o' k = o k):a4q o' id h = a4q o id h:=by
 simp only [a4q];rw [a8x ho]
 cases h with
 | ref id' n=>simp only;rw [ho id' bp1]
 | _=>rfl
theorem aji {y:HV} (hid:o' id = o id) (ho:∀ k ∈ y.ids,o' k = o k):zq E o' id n el y = zq E o id n el y:=by
 simp only [zq];rw [hid,ach ho]
theorem arx {y:HV} (hid:o' id = o id) (ho:∀ k ∈ y.ids,o' k = o k):a9h E o' id n el y = a9h E o id n el y:=by
 simp only [a9h];rw [hid,ach ho]
theorem an0 {i k:Nat} {y:HV} (hid:o' id = o id):a33 E o' el id n i k y = a33 E o el id n i k y:=by
 unfold a33;rw [hid]
theorem ar2 {z:List Value} (ho:∀ k ∈ h.ids,o' k = o k):adb o' z n h = adb o z n h:=by
 cases h with
 | win id n i m=>simp only [adb];rw [ho id bp1]
 | _=>rfl
theorem amr {hy hx:HV} (h1:∀ k ∈ hx.ids,o' k = o k) (h2:∀ k ∈ hy.ids,o' k = o k):xh E o' id wb el hy hx = xh E o id wb el hy hx:=by
 cases hx with
 | win id1 n i k =>
  simp only [xh];exact an0 (h1 id1 bp1)
 | pin id1 n ad cap =>
  simp only [xh];rw [a0x (o:=o) (o':=o') (h1 id1 bp1) h2]
 | ref id1 n =>
  simp only [xh];rw [a0x (o:=o) (o':=o') (h1 id1 bp1) h2,aji (o:=o) (o':=o') (h1 id1 bp1) h2,arx (o:=o) (o':=o') (h1 id1 bp1) h2]
 | p px =>
  cases px with
  | sl n sz cl f =>
   cases cl with
   | false=>rfl
   | true =>
    simp only [xh]
    cases E el with
    | none=>rfl
    | some ei =>
     dsimp only
     rw [a0x (o:=fun k=>if k = id then some (af.arr false ei.size el n f) else o k) (o':=fun k=>if k = id then some (af.arr false ei.size el n f) else o' k) bow (fun k hk=>by
      try dsimp only
      split
      · rfl
      exact h2 k hk)]
  | _=>rfl
 | _=>rfl
theorem amx {x y:Option HR} (hx:∀ r,x = some r -> ∀ k ∈ r.ids,o' k = o k) (hy:∀ r,y = some r -> ∀ k ∈ r.ids,o' k = o k):
 a6y E o' id wb t x y = a6y E o id wb t x y:=by
 unfold a6y
 cases E t with
 | none=>rfl
 | some i =>
  dsimp only;cases i.k <;> try rfl
  rename_i el
  cases x with
  | none=>rfl
  | some rx =>
   cases rx with
   | tup l=>rfl
   | v cx =>
    cases cx with
    | agg l=>rfl
    | one hxv =>
     cases y with
     | none=>rfl
     | some ry =>
      cases ry with
      | tup l=>rfl
      | v cy =>
       cases cy with
       | agg l=>rfl
       | one hyv=>exact amr (hx _ rfl) (hy _ rfl)
theorem aw4 (hx:∀ x ∈ op.operands,e' x = e x) (ho:∀ k ∈ dv e op.operands.toList,o' k = o k):hap E o' e' id wb op = hap E o e id wb op:=by
 cases op <;> try rfl
 case call c =>
  unfold hap;dsimp only;split
  · rename_i hc
    simp only [Op.operands,Call.operands,hc] at hx ho;have h1:∀ x ∈ c.args.toList,e' x = e x:=fun x hm=>hx x (by simpa using hm);have h2:∀ k ∈ dv e c.args.toList,o' k = o k:=fun k hk=>ho k (by simpa using hk);generalize c.args.toList = l at h1 h2;unfold a84;split
    · rename_i x y t t' _
      split
      · rw [h1 x bow,h1 y bow]
        exact amx (fun r hr k hk=>h2 k (ff hr bow k hk)) (fun r hr k hk=>h2 k (ff hr bow k hk))
      rfl
    rfl
  · rename_i hc
    simp only [Op.operands,Call.operands,hc] at hx ho;have h1:∀ x ∈ c.args.toList,e' x = e x:=fun x hm=>hx x (by simpa using hm);have h2:∀ k ∈ dv e c.args.toList,o' k = o k:=fun k hk=>ho k (by simpa using hk);generalize c.args.toList = l at h1 h2;unfold zo;split
    · rename_i x t _
      rw [h1 x bow]
      cases E t with
      | none=>rfl
      | some ti =>
       dsimp only;cases ti.k <;> try rfl
       rename_i el;dsimp only
       cases E el with
       | none=>rfl
       | some ei =>
        dsimp only
        cases ei.zero with
        | none=>rfl
        | some z =>
         dsimp only;split
         · cases hex:e x with
           | none=>rfl
           | some r =>
            cases r with
            | tup l=>rfl
            | v cc =>
             cases cc with
             | agg l=>rfl
             | one hv=>exact ar2 fun k hk=>h2 k (ff hex bow k hk)
         rfl
    rfl
  rfl
theorem a90 (ho:∀ k ∈ h.ids,o' k = o k):a3c o' h = a3c o h:=by
 cases h with
 | ref id n=>simp only [a3c];rw [ho id bp1]
 | _=>rfl
end
end
end
end Go.Hx
