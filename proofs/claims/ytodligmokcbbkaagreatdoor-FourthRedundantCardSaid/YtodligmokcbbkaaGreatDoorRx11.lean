/- A part of the proof: Hx11. -/
import Derived.Test.YtodligmokcbbkaaGreatDoorRx10
set_option linter.all false
section
namespace Go.Hx
open Go.RowKit
section
variable {E:Env} {ex:Bool} {o o':au} {e e':Ev}
theorem dg {x:Operand} {r:HR} (hx:e x = some r):∀ {l:List Operand},x ∈ l → ∀ k ∈ r.ids,k ∈ cg e l
 | y :: l,hm,k,hk=>by
  rcases List.mem_cons.1 hm with rfl | hm
  · simp only [cg,hx];exact List.mem_append_left _ hk
  · simp only [cg];exact List.mem_append_right _ (dg hx hm k hk)
theorem mb:∀ {l:List Operand},(∀ x ∈ l,e' x = e x) → cg e' l = cg e l
 | [],_=>rfl
 | x :: l,h=>by
  simp only [cg]
  rw [h x (by simp),mb fun y hy=>h y (by simp [hy])]
theorem tg {h:HV} (ho:∀ k ∈ h.ids,o' k = o k):tgt o' h = tgt o h:=by
 cases h with
 | p x=>cases x <;> rfl
 | ref id n=>rfl
 | ptr id off=>simp only [tgt];rw [ho id (by simp [HV.ids])]
 | eptr id n i j=>simp only [tgt];rw [ho id (by simp [HV.ids])]
 | win id n i m=>rfl
 | clo g k caps=>rfl
 | row id i k=>rfl
 | rptr id i k r j=>simp only [tgt];rw [ho id (by simp [HV.ids])]
 | pin id n ad cap=>rfl
theorem uo {places:List (Nat × Nat)}:∀ {parts:List (Nat × Operand)} {cells:List HV},(∀ x ∈ parts.map (·.2),e' x = e x) → fl e' places cells parts = fl e places cells parts
 | [],_,_=>rfl
 | (i,x) :: r,cells,h=>by
  have hx:=h x (by simp)
  have ih:∀ cells,fl e' places cells r = fl e places cells r:=fun cells=>uo fun y hy=>h y (by simp at hy ⊢;exact .inr hy)
  simp only [fl,hx,ih]
theorem a1l:∀ {l:List Operand},(∀ x ∈ l,e' x = e x) → tn e' l = tn e l
 | [],_=>rfl
 | x :: l,h=>by
  simp only [tn]
  rw [h x (by simp),a1l fun y hy=>h y (by simp [hy])]
theorem a1s:∀ {l:List Operand},(∀ x ∈ l,e' x = e x) → u6 e' l = u6 e l
 | [],_=>rfl
 | x :: l,h=>by
  simp only [u6]
  rw [h x (by simp),a1s fun y hy=>h y (by simp [hy])]
theorem jc {x:Option Operand} (h:∀ y ∈ x.toList,e' y = e y):fv e' x = fv e x:=by
 cases x with
 | none=>rfl
 | some y=>simp only [fv];rw [h y (by simp)]
theorem a4l {b:Builtin} {args:List Operand} {tys:List TypeId} (h:∀ x ∈ args,e' x = e x):n8 E e' b args tys = n8 E e b args tys:=by
 unfold n8
 split
 · rename_i x t r
   rw [h x (by simp)]
 · rename_i x y
   rw [h x (by simp),h y (by simp)]
 · rename_i x y
   rw [h x (by simp),h y (by simp)]
 · rfl
theorem af6 {h:HV} (ho:∀ k ∈ h.ids,o' k = o k):ya o' h = ya o h:=by
 cases h with
 | ref id n=>simp only [ya];rw [ho id (by simp [HV.ids])]
 | win id n i m=>simp only [ya];rw [ho id (by simp [HV.ids])]
 | row id i k=>simp only [ya];rw [ho id (by simp [HV.ids])]
 | _=>rfl
theorem ae3 {h:HV} {n:Nat} {i:Int} (ho:∀ k ∈ h.ids,o' k = o k):a26 o' n i h = a26 o n i h:=by
 cases h with
 | ref id n=>simp only [a26];rw [ho id (by simp [HV.ids])]
 | win id n i m=>simp only [a26];rw [ho id (by simp [HV.ids])]
 | row id i k=>simp only [a26];rw [ho id (by simp [HV.ids])]
 | p x=>cases x <;> rfl
 | _=>rfl
theorem aaj {h:HV} {n:Nat} {x y z:Option Int} (ho:∀ k ∈ h.ids,o' k = o k):t7 o' n x y z h = t7 o n x y z h:=by
 cases h with
 | ref id n=>simp only [t7];rw [ho id (by simp [HV.ids])]
 | win id n i m=>simp only [t7];rw [ho id (by simp [HV.ids])]
 | _=>rfl
theorem a6z {x:Operand} {l:List Operand} {F:au → HV → Option Out} {α:Type} {d:α} {G:Option Out → α} (hF:∀ h:HV,(∀ k ∈ h.ids,o' k = o k) → F o' h = F o h) (hl:x ∈ l) (ho:∀ k ∈ cg e l,o' k = o k) :
 (match e x with | some (.v (.one h))=>G (F o' h) | _=>d) = (match e x with | some (.v (.one h))=>G (F o h) | _=>d):=by
 cases hex:e x with
 | none=>rfl
 | some r =>
  cases r with
  | tup l=>rfl
  | v cc =>
   cases cc with
   | agg l=>rfl
   | one h =>
    dsimp only
    rw [hF h fun k hk=>ho k (dg hex hl k hk)]
theorem a6f {b:Builtin} {args:List Operand} {tys:List TypeId} (h:∀ x ∈ args,e' x = e x) (ho:∀ k ∈ cg e args,o' k = o k):o9 E o' e' b args tys = o9 E o e b args tys:=by
 unfold o9
 split
 · rename_i x t r
   rw [h x (by simp)]
   cases E t with
   | none=>rfl
   | some ti =>
    dsimp only
    cases ti.k <;> try rfl
    exact a6z (G:=id) (F:=ya) (fun h hh=>af6 hh) (by simp) ho
 · rfl
theorem abi {x:Operand} (ho:∀ k ∈ cg e [x],o' k = o k):mi o' e x = mi o e x:=by
 unfold mi
 cases hex:e x with
 | none=>rfl
 | some r =>
  cases r with
  | tup l=>rfl
  | v cc =>
   cases cc with
   | agg l=>rfl
   | one h =>
    have:=tg (o:=o) (o':=o') (h:=h) (fun k hk=>ho k (dg hex (by simp) k hk))
    cases h with
    | p x=>cases x <;> rfl
    | ref id n=>rfl
    | ptr id off=>dsimp only;rw [this]
    | eptr id n i j=>dsimp only;rw [this]
    | win id n i m=>rfl
    | clo g k caps=>rfl
    | row id i k=>rfl
    | rptr id i k r j=>dsimp only;rw [this]
    | pin id n ad cap=>rfl
theorem a9t {t:TypeId} {x:Operand} (ho:∀ k ∈ cg e [x],o' k = o k):jn E o' e t x = jn E o e t x:=by
 unfold jn
 cases E t with
 | none=>rfl
 | some i =>
  dsimp only
  cases hex:e x with
  | none=>rfl
  | some r =>
   cases r with
   | tup l=>rfl
   | v cc =>
    cases cc with
    | agg l=>rfl
    | one h =>
     dsimp only
     rw [tg (o:=o) (o':=o') (h:=h) (fun k hk=>ho k (dg hex (by simp) k hk))]
theorem a17 {t:TypeId} {x:Operand} {k:Nat} (ho:∀ k ∈ cg e [x],o' k = o k):ef E o' e t x k = ef E o e t x k:=by
 unfold ef
 cases E t with
 | none=>rfl
 | some i =>
  dsimp only
  cases i.k <;> try rfl
  rename_i fs
  dsimp only
  cases fs[k]? with
  | none=>rfl
  | some q =>
   obtain ⟨off,ft,bl⟩:=q
   dsimp only
   cases E ft with
   | none=>rfl
   | some fi =>
    dsimp only
    cases hex:e x with
    | none=>rfl
    | some r =>
     cases r with
     | tup l=>rfl
     | v cc =>
      cases cc with
      | agg l=>rfl
      | one h =>
       dsimp only
       rw [tg (o:=o) (o':=o') (h:=h) (fun k hk=>ho k (dg hex (by simp) k hk))]
theorem a29 {len:Nat} {el:TypeId} {x i:Operand} (ho:∀ k ∈ cg e [x],o' k = o k):k7 E o' e len el x i = k7 E o e len el x i:=by
 unfold k7
 cases E el with
 | none=>rfl
 | some ei =>
  dsimp only
  cases hex:e x with
  | none=>rfl
  | some r =>
   cases r with
   | tup l=>rfl
   | v cc =>
    cases cc with
    | agg l=>rfl
    | one h =>
     dsimp only
     rw [tg (o:=o) (o':=o') (h:=h) (fun k hk=>ho k (dg hex (by simp) k hk))]
theorem a19 {t:TypeId} {x i:Operand} (ho:∀ k ∈ cg e [x],o' k = o k):ey E o' e t x i = ey E o e t x i:=by
 unfold ey
 cases E t with
 | none=>rfl
 | some ii =>
  dsimp only
  cases ii.k <;> try rfl
  case array len el=>exact a29 ho
  rename_i el
  dsimp only
  cases E el with
  | none=>rfl
  | some ei =>
   dsimp only
   cases hex:e x with
   | none=>rfl
   | some r =>
    cases r with
    | tup l=>rfl
    | v cc =>
     cases cc with
     | agg l=>rfl
     | one h =>
      dsimp only
      have:=fun iv=>ae3 (o:=o) (o':=o') (h:=h) (n:=ei.size) (i:=iv) (fun k hk=>ho k (dg hex (by simp) k hk))
      simp only [this]
theorem abu {h:HV} {kk:KK} {m:MK} {z:Value} {cm:Bool} (ho:∀ k ∈ h.ids,o' k = o k):a3m o' kk m z cm h = a3m o kk m z cm h:=by
 cases h with
 | ref id n=>simp only [a3m];rw [ho id (by simp [HV.ids])]
 | p y=>cases y <;> rfl
 | _=>rfl
theorem a5t {t:TypeId} {x i:Operand} {cm:Bool} (ho:∀ k ∈ cg e [x],o' k = o k):i7 E o' e t x i cm = i7 E o e t x i cm:=by
 unfold i7
 cases E t with
 | none=>rfl
 | some ii =>
  dsimp only
  cases ii.k <;> try rfl
  rename_i kt et
  dsimp only
  cases a82 E kt et with
  | none=>rfl
  | some q =>
   obtain ⟨kk,z⟩:=q
   dsimp only
   cases hex:e x with
   | none=>rfl
   | some r =>
    cases r with
    | tup l=>rfl
    | v cc =>
     cases cc with
     | agg l=>rfl
     | one h =>
      dsimp only
      have:=fun m=>abu (o:=o) (o':=o') (h:=h) (kk:=kk) (m:=m) (z:=z) (cm:=cm) (fun k hk=>ho k (dg hex (by simp) k hk))
      simp only [this]
theorem a7s {h:HV} {op:BinOp} (ho:∀ k ∈ h.ids,o' k = o k):w6 o' op h = w6 o op h:=by
 cases h with
 | ptr id n=>simp only [w6];rw [ho id (by simp [HV.ids])]
 | p x=>cases x with
  | raw v=>cases v <;> rfl
  | _=>rfl
 | _=>rfl
theorem a61 {op:BinOp} {t:TypeId} {x y:Operand} (ho:∀ k ∈ cg e [x],o' k = o k):i9 E o' e op t x y = i9 E o e op t x y:=by
 unfold i9
 split <;> try rfl
 cases E t with
 | none=>rfl
 | some ii =>
  dsimp only
  cases ii.k <;> try rfl
  dsimp only
  cases hex:e x with
  | none=>rfl
  | some r =>
   cases r with
   | tup l=>rfl
   | v cc =>
    cases cc with
    | agg l=>rfl
    | one h=>exact a7s (fun k hk=>ho k (dg hex (by simp) k hk))
theorem ak5 {op:Op} (hx:∀ x ∈ op.operands,e' x = e x) (ho:∀ k ∈ cg e op.operands.toList,o' k = o k):hq E ex o' e' op = hq E ex o e op:=by
 cases op <;> try rfl
 case move x=>show Option.map _ (e' x) = Option.map _ (e x);rw [hx x (by simp [Op.operands])]
 case assign x=>show Option.map _ (e' x) = Option.map _ (e x);rw [hx x (by simp [Op.operands])]
 case pick c x y =>
  show va e' c x y = va e c x y
  unfold va
  rw [hx c (by simp [Op.operands]),hx x (by simp [Op.operands]),hx y (by simp [Op.operands])]
 case nilCheck x =>
  show mi o' e' x = mi o e x
  have h1:mi o' e' x = mi o' e x:=by unfold mi;rw [hx x (by simp [Op.operands])]
  rw [h1]
  exact abi (by simpa [Op.operands] using ho)
 case load t x =>
  show jn E o' e' t x = jn E o e t x
  have h1:jn E o' e' t x = jn E o' e t x:=by unfold jn;rw [hx x (by simp [Op.operands])]
  rw [h1]
  exact a9t (by simpa [Op.operands] using ho)
 case fieldAddr t x k =>
  show ef E o' e' t x k = ef E o e t x k
  have h1:ef E o' e' t x k = ef E o' e t x k:=by unfold ef;rw [hx x (by simp [Op.operands])]
  rw [h1]
  exact a17 (by simpa [Op.operands] using ho)
 case field t x k =>
  show rj E e' t x k = rj E e t x k
  unfold rj
  rw [hx x (by simp [Op.operands])]
 case indexAddr t x i =>
  show ey E o' e' t x i = ey E o e t x i
  have h1:ey E o' e' t x i = ey E o' e t x i:=by unfold ey k7;rw [hx x (by simp [Op.operands]),hx i (by simp [Op.operands])]
  rw [h1]
  refine a19 fun k hk=>ho k ?_
  simp only [cg,Op.operands,List.append_nil] at hk ⊢
  exact List.mem_append_left _ hk
 case lookup t x i cm =>
  show i7 E o' e' t x i cm = i7 E o e t x i cm
  have h1:i7 E o' e' t x i cm = i7 E o' e t x i cm:=by unfold i7;rw [hx x (by simp [Op.operands]),hx i (by simp [Op.operands])]
  rw [h1]
  refine a5t fun k hk=>ho k ?_
  simp only [cg,Op.operands,List.append_nil] at hk ⊢
  exact List.mem_append_left _ hk
 case index t x i =>
  show rg E e' t x i = rg E e t x i
  unfold rg
  rw [hx x (by simp [Op.operands]),hx i (by simp [Op.operands])]
 case binOp op t x y ty =>
  have h1:a0t E ex e' op t x y = a0t E ex e op t x y:=by
   unfold a0t
   rw [hx x (by simp [Op.operands]),hx y (by simp [Op.operands])]
  have h2:ol E e' op t x y = ol E e op t x y:=by
   unfold ol
   rw [hx x (by simp [Op.operands])]
  have h3:i9 E o' e' op t x y = i9 E o e op t x y:=by
   have h1:i9 E o' e' op t x y = i9 E o' e op t x y:=by unfold i9;rw [hx x (by simp [Op.operands])]
   rw [h1]
   refine a61 fun k hk=>ho k ?_
   simp only [cg,Op.operands,List.append_nil] at hk ⊢
   exact List.mem_append_left _ hk
  simp only [hq]
  rw [h1,h2,h3]
 case unOp op t x =>
  show a6a ex e' op x = a6a ex e op x
  unfold a6a
  rw [hx x (by simp [Op.operands])]
 case convert src dst x =>
  show vr E ex e' src dst x = vr E ex e src dst x
  unfold vr
  rw [hx x (by simp [Op.operands])]
 case extract x i =>
  show n3 e' x i = n3 e x i
  unfold n3
  rw [hx x (by simp [Op.operands])]
 case slice t x lo hi mx =>
  have e0:=hx x (by simp [Op.operands])
  have e1:=jc (e:=e) (e':=e') (x:=lo) (fun y hy=>hx y (by simp [Op.operands];simp at hy;simp [hy]))
  have e2:=jc (e:=e) (e':=e') (x:=hi) (fun y hy=>hx y (by simp [Op.operands];simp at hy;simp [hy]))
  have e3:=jc (e:=e) (e':=e') (x:=mx) (fun y hy=>hx y (by simp [Op.operands];simp at hy;simp [hy]))
  have h1:it E e' t x lo hi mx = it E e t x lo hi mx:=by
   unfold it
   rw [e0,e1,e2,e3]
  have h2:a11 E o' e' t x lo hi mx = a11 E o e t x lo hi mx:=by
   unfold a11
   rw [e0,e1,e2,e3]
   cases E t with
   | none=>rfl
   | some ti =>
    dsimp only
    cases ti.k <;> try rfl
    rename_i el
    dsimp only
    cases E el with
    | none=>rfl
    | some ei =>
     dsimp only
     cases fv e lo with
     | none=>rfl
     | some l =>
      cases fv e hi with
      | none=>rfl
      | some hh =>
       cases fv e mx with
       | none=>rfl
       | some m =>
        dsimp only
        exact a6z (G:=id) (F:=fun o h=>t7 o ei.size l hh m h) (fun h hh=>aaj hh) (l:=(Op.slice t x lo hi mx).operands.toList) (by simp [Op.operands]) ho
  simp only [hq]
  rw [h1,h2]
 case makeFunc fn first caps =>
  show v6 e' fn first.toList caps.toList = v6 e fn first.toList caps.toList
  unfold v6
  rw [a1l (l:=caps.toList) (fun y hy=>hx y (by simp [Op.operands];simp at hy;exact .inr hy)),a1s (l:=caps.toList) (fun y hy=>hx y (by simp [Op.operands];simp at hy;exact .inr hy))]
  split
  · rfl
  · rename_i f x hf
    rw [hx x (by simp [Op.operands];left;rw [← Array.mem_toList_iff,hf];simp)]
  · rfl
 case build t parts =>
  show rp E e' t parts.toList = rp E e t parts.toList
  have hf:∀ places cells,fl e' places cells parts.toList = fl e places cells parts.toList:=fun places cells=>uo fun x hm=>hx x (by simpa [Op.operands] using hm)
  unfold rp
  simp only [hf]
 case call c =>
  simp only [hq]
  cases hc:c.callee with
  | value f=>rfl
  | invoke r m=>rfl
  | builtin b =>
   simp only [Op.operands,Call.operands,hc] at hx ho
   have h1:∀ x ∈ c.args.toList,e' x = e x:=fun x hm=>hx x (by simpa using hm)
   have h2:∀ k ∈ cg e c.args.toList,o' k = o k:=fun k hk=>ho k (by simpa using hk)
   dsimp only
   rw [a4l h1,a6f h1 h2]
theorem air {op:Op} {id:Nat} (hx:∀ x ∈ op.operands,e' x = e x):ha E e' id op = ha E e id op:=by
 cases op <;> simp only [ha] <;> simp only [Op.operands] at hx
 case box t x=>rw [hx x (by simp)]
 case buildSlice t n parts =>
  have hf:∀ sz cells,a0f e' sz n parts.toList cells = a0f e sz n parts.toList cells:=fun sz cells=>by
   unfold a0f
   exact uo fun x hm=>hx x (by simpa using hm)
  simp only [hf]
 case makeSlice t l c=>rw [hx l (by simp),hx c (by simp)]
theorem a7p {t:TypeId} {x y:Operand} (ho:∀ k ∈ cg e [x,y],o' k = o k):iu E o' e t x y = iu E o e t x y:=by
 unfold iu
 cases E t with
 | none=>rfl
 | some i =>
  cases hv:e y with
  | none=>rfl
  | some rv =>
   cases rv with
   | tup l=>rfl
   | v cv =>
    cases hex:e x with
    | none=>rfl
    | some r =>
     cases r with
     | tup l=>rfl
     | v cc =>
      cases cc with
      | agg l=>rfl
      | one h =>
       cases h with
       | p x=>cases x <;> rfl
       | ref id n=>rfl
       | ptr id off=>dsimp only;rw [ho id (dg hex (by simp) id (by simp [HR.ids,HC.ids,HV.ids]))]
       | eptr id n r j=>dsimp only;rw [ho id (dg hex (by simp) id (by simp [HR.ids,HC.ids,HV.ids]))]
       | win id n i m=>rfl
       | clo g k caps=>rfl
       | row id i k=>rfl
       | rptr id i k r j=>dsimp only;rw [ho id (dg hex (by simp) id (by simp [HR.ids,HC.ids,HV.ids]))]
       | pin id n ad cap=>rfl
theorem aap {h:HV} {kk:KK} {m:MK} {y:PV} (ho:∀ k ∈ h.ids,o' k = o k):zq o' kk m y h = zq o kk m y h:=by
 cases h with
 | ref id n=>simp only [zq];rw [ho id (by simp [HV.ids])]
 | _=>rfl
theorem a1c {t:TypeId} {x i v:Operand} (ho:∀ k ∈ cg e [x],o' k = o k):iz E o' e t x i v = iz E o e t x i v:=by
 unfold iz
 cases E t with
 | none=>rfl
 | some ii =>
  dsimp only
  cases ii.k <;> try rfl
  rename_i kt et
  dsimp only
  cases E kt with
  | none=>rfl
  | some ki =>
   dsimp only
   cases hex:e x with
   | none=>rfl
   | some r =>
    cases r with
    | tup l=>rfl
    | v cc =>
     cases cc with
     | agg l=>rfl
     | one h =>
      dsimp only
      have:=fun kk m y=>aap (o:=o) (o':=o') (h:=h) (kk:=kk) (m:=m) (y:=y) (fun k hk=>ho k (dg hex (by simp) k hk))
      simp only [this]
theorem ab9 {op:Op} (hx:∀ x ∈ op.operands,e' x = e x) (ho:∀ k ∈ cg e op.operands.toList,o' k = o k):hs E o' e' op = hs E o e op:=by
 cases op <;> try rfl
 case mapUpdate t x i v =>
  show iz E o' e' t x i v = iz E o e t x i v
  have h1:iz E o' e' t x i v = iz E o' e t x i v:=by unfold iz;rw [hx x (by simp [Op.operands]),hx i (by simp [Op.operands]),hx v (by simp [Op.operands])]
  rw [h1]
  refine a1c fun k hk=>ho k ?_
  simp only [cg,Op.operands,List.append_nil] at hk ⊢
  exact List.mem_append_left _ hk
 case insert t x i v =>
  show iz E o' e' t x i v = iz E o e t x i v
  have h1:iz E o' e' t x i v = iz E o' e t x i v:=by unfold iz;rw [hx x (by simp [Op.operands]),hx i (by simp [Op.operands]),hx v (by simp [Op.operands])]
  rw [h1]
  refine a1c fun k hk=>ho k ?_
  simp only [cg,Op.operands,List.append_nil] at hk ⊢
  exact List.mem_append_left _ hk
 case store t addr v =>
  show iu E o' e' t addr v = iu E o e t addr v
  have h1:iu E o' e' t addr v = iu E o' e t addr v:=by unfold iu;rw [hx addr (by simp [Op.operands]),hx v (by simp [Op.operands])]
  rw [h1]
  exact a7p (by simpa [Op.operands] using ho)
theorem a1g {id:Nat} {h:HV} (ho:∀ k ∈ h.ids,o' k = o k):qu o' id h = qu o id h:=by
 cases h with
 | p x =>
  cases x with
  | raw v =>
   cases v with
   | slice a n c=>cases n <;> rfl
   | _=>rfl
  | _=>rfl
 | ref id' n=>simp only [qu];rw [ho id' (by simp [HV.ids])]
 | _=>rfl
theorem ua {id n:Nat} {wb:Bool} {el:TypeId} {y:HV} (hid:o' id = o id) (ho:∀ k ∈ y.ids,o' k = o k):mf E o' id n wb el y = mf E o id n wb el y:=by
 simp only [mf]
 rw [hid,a1g ho]
theorem a41 {id:Nat} {h:HV} (ho:∀ k ∈ h.ids,o' k = o k):zd o' id h = zd o id h:=by
 simp only [zd]
 rw [a1g ho]
 cases h with
 | ref id' n=>simp only;rw [ho id' (by simp [HV.ids])]
 | _=>rfl
theorem aad {id n:Nat} {el:TypeId} {y:HV} (hid:o' id = o id) (ho:∀ k ∈ y.ids,o' k = o k):sk E o' id n el y = sk E o id n el y:=by
 simp only [sk]
 rw [hid,a41 ho]
theorem af4 {id n:Nat} {el:TypeId} {y:HV} (hid:o' id = o id) (ho:∀ k ∈ y.ids,o' k = o k):a2l E o' id n el y = a2l E o id n el y:=by
 simp only [a2l]
 rw [hid,a41 ho]
theorem aby {el:TypeId} {id n i k:Nat} {y:HV} (hid:o' id = o id):wq E o' el id n i k y = wq E o el id n i k y:=by
 unfold wq
 rw [hid]
theorem aeo {h:HV} {z:List Value} {n:Nat} (ho:∀ k ∈ h.ids,o' k = o k):a5d o' z n h = a5d o z n h:=by
 cases h with
 | win id n i m=>simp only [a5d];rw [ho id (by simp [HV.ids])]
 | _=>rfl
theorem abx {id:Nat} {wb:Bool} {el:TypeId} {hy hx:HV} (h1:∀ k ∈ hx.ids,o' k = o k) (h2:∀ k ∈ hy.ids,o' k = o k):qt E o' id wb el hy hx = qt E o id wb el hy hx:=by
 cases hx with
 | win id1 n i k =>
  simp only [qt]
  exact aby (h1 id1 (by simp [HV.ids]))
 | pin id1 n ad cap =>
  simp only [qt]
  rw [ua (o:=o) (o':=o') (h1 id1 (by simp [HV.ids])) h2]
 | ref id1 n =>
  simp only [qt]
  rw [ua (o:=o) (o':=o') (h1 id1 (by simp [HV.ids])) h2,aad (o:=o) (o':=o') (h1 id1 (by simp [HV.ids])) h2,af4 (o:=o) (o':=o') (h1 id1 (by simp [HV.ids])) h2]
 | p px =>
  cases px with
  | sl n sz cl f =>
   cases cl with
   | false=>rfl
   | true =>
    simp only [qt]
    cases E el with
    | none=>rfl
    | some ei =>
     dsimp only
     rw [ua (o:=fun k=>if k = id then some (ah.arr false ei.size el n f) else o k) (o':=fun k=>if k = id then some (ah.arr false ei.size el n f) else o' k) (by simp) (fun k hk=>by
      try dsimp only
      split
      · rfl
      · exact h2 k hk)]
  | _=>rfl
 | _=>rfl
theorem abf {id:Nat} {wb:Bool} {t:TypeId} {x y:Option HR} (hx:∀ r,x = some r → ∀ k ∈ r.ids,o' k = o k) (hy:∀ r,y = some r → ∀ k ∈ r.ids,o' k = o k) :
 a0s E o' id wb t x y = a0s E o id wb t x y:=by
 unfold a0s
 cases E t with
 | none=>rfl
 | some i =>
  dsimp only
  cases i.k <;> try rfl
  rename_i el
  cases x with
  | none=>rfl
  | some rx =>
   cases rx with
   | tup l=>rfl
   | v cx =>
    cases cx with
    | agg l=>rfl
    | one hxv =>
     cases y with
     | none=>rfl
     | some ry =>
      cases ry with
      | tup l=>rfl
      | v cy =>
       cases cy with
       | agg l=>rfl
       | one hyv=>exact abx (hx _ rfl) (hy _ rfl)
theorem ail {op:Op} {id:Nat} {wb:Bool} (hx:∀ x ∈ op.operands,e' x = e x) (ho:∀ k ∈ cg e op.operands.toList,o' k = o k):hap E o' e' id wb op = hap E o e id wb op:=by
 cases op <;> try rfl
 case call c =>
  unfold hap
  dsimp only
  split
  · rename_i hc
    simp only [Op.operands,Call.operands,hc] at hx ho
    have h1:∀ x ∈ c.args.toList,e' x = e x:=fun x hm=>hx x (by simpa using hm)
    have h2:∀ k ∈ cg e c.args.toList,o' k = o k:=fun k hk=>ho k (by simpa using hk)
    generalize c.args.toList = l at h1 h2
    unfold a0z
    split
    · rename_i x y t t' _
      split
      · rw [h1 x (by simp),h1 y (by simp)]
        exact abf (fun r hr k hk=>h2 k (dg hr (by simp) k hk)) (fun r hr k hk=>h2 k (dg hr (by simp) k hk))
      · rfl
    · rfl
  · rename_i hc
    simp only [Op.operands,Call.operands,hc] at hx ho
    have h1:∀ x ∈ c.args.toList,e' x = e x:=fun x hm=>hx x (by simpa using hm)
    have h2:∀ k ∈ cg e c.args.toList,o' k = o k:=fun k hk=>ho k (by simpa using hk)
    generalize c.args.toList = l at h1 h2
    unfold sx
    split
    · rename_i x t _
      rw [h1 x (by simp)]
      cases E t with
      | none=>rfl
      | some ti =>
       dsimp only
       cases ti.k <;> try rfl
       rename_i el
       dsimp only
       cases E el with
       | none=>rfl
       | some ei =>
        dsimp only
        cases ei.zero with
        | none=>rfl
        | some z =>
         dsimp only
         split
         · cases hex:e x with
           | none=>rfl
           | some r =>
            cases r with
            | tup l=>rfl
            | v cc =>
             cases cc with
             | agg l=>rfl
             | one hv=>exact aeo fun k hk=>h2 k (dg hex (by simp) k hk)
         · rfl
    · rfl
  · rfl
theorem a1e {h:HV} (ho:∀ k ∈ h.ids,o' k = o k):wl o' h = wl o h:=by
 cases h with
 | ref id n=>simp only [wl];rw [ho id (by simp [HV.ids])]
 | _=>rfl
end
end Go.Hx
end
