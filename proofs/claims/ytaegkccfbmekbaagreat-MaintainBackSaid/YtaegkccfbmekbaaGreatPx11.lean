/- A part of the proof: Hx11. -/
import Derived.Test.YtaegkccfbmekbaaGreatPx10
set_option linter.all false
section
namespace Go.Hx
open Go.RowKit
section
variable {E:Env} {ex:Bool} {o o':bd} {e e':Ev}
theorem ef {x:Operand} {r:HR} (hx:e x = some r):∀ {l:List Operand},x ∈ l → ∀ k ∈ r.ids,k ∈ d4 e l
 | y :: l,hm,k,hk=>by
  rcases List.mem_cons.1 hm with rfl | hm
  · simp only [d4,hx];exact List.mem_append_left _ hk
  · simp only [d4];exact List.mem_append_right _ (ef hx hm k hk)
theorem n5:∀ {l:List Operand},(∀ x ∈ l,e' x = e x) → d4 e' l = d4 e l
 | [],_=>rfl
 | x :: l,h=>by
  simp only [d4]
  rw [h x (by simp),n5 fun y hy=>h y (by simp [hy])]
theorem vm {h:HV} (ho:∀ k ∈ h.ids,o' k = o k):tgt o' h = tgt o h:=by
 cases h with
 | p x=>cases x <;> rfl
 | ref id n=>rfl
 | ptr id off=>simp only [tgt];rw [ho id (by simp [HV.ids])]
 | eptr id n i j=>simp only [tgt];rw [ho id (by simp [HV.ids])]
 | win id n i m=>rfl
 | clo g k caps=>rfl
 | row id i k=>rfl
 | rptr id i k r j=>simp only [tgt];rw [ho id (by simp [HV.ids])]
 | pin id n ad cap=>rfl
theorem w9 {places:List (Nat × Nat)}:∀ {parts:List (Nat × Operand)} {cells:List HV},(∀ x ∈ parts.map (·.2),e' x = e x) → gi e' places cells parts = gi e places cells parts
 | [],_,_=>rfl
 | (i,x) :: r,cells,h=>by
  have hx:=h x (by simp)
  have ih:∀ cells,gi e' places cells r = gi e places cells r:=fun cells=>w9 fun y hy=>h y (by simp at hy ⊢;exact .inr hy)
  simp only [gi,hx,ih]
theorem a2a:∀ {l:List Operand},(∀ x ∈ l,e' x = e x) → uz e' l = uz e l
 | [],_=>rfl
 | x :: l,h=>by
  simp only [uz]
  rw [h x (by simp),a2a fun y hy=>h y (by simp [hy])]
theorem a28:∀ {l:List Operand},(∀ x ∈ l,e' x = e x) → ve e' l = ve e l
 | [],_=>rfl
 | x :: l,h=>by
  simp only [ve]
  rw [h x (by simp),a28 fun y hy=>h y (by simp [hy])]
theorem jz {x:Option Operand} (h:∀ y ∈ x.toList,e' y = e y):gm e' x = gm e x:=by
 cases x with
 | none=>rfl
 | some y=>simp only [gm];rw [h y (by simp)]
theorem a47 {b:Builtin} {args:List Operand} {tys:List TypeId} (h:∀ x ∈ args,e' x = e x):od E e' b args tys = od E e b args tys:=by
 unfold od
 split
 · rename_i x t r
   rw [h x (by simp)]
 · rename_i x y
   rw [h x (by simp),h y (by simp)]
 · rename_i x y
   rw [h x (by simp),h y (by simp)]
 · rfl
theorem aep {h:HV} (ho:∀ k ∈ h.ids,o' k = o k):a13 o' h = a13 o h:=by
 cases h with
 | ref id n=>simp only [a13];rw [ho id (by simp [HV.ids])]
 | win id n i m=>simp only [a13];rw [ho id (by simp [HV.ids])]
 | row id i k=>simp only [a13];rw [ho id (by simp [HV.ids])]
 | _=>rfl
theorem aeq {h:HV} {n:Nat} {i:Int} (ho:∀ k ∈ h.ids,o' k = o k):a3d o' n i h = a3d o n i h:=by
 cases h with
 | ref id n=>simp only [a3d];rw [ho id (by simp [HV.ids])]
 | win id n i m=>simp only [a3d];rw [ho id (by simp [HV.ids])]
 | row id i k=>simp only [a3d];rw [ho id (by simp [HV.ids])]
 | p x=>cases x <;> rfl
 | _=>rfl
theorem abw {h:HV} {n:Nat} {x y z:Option Int} (ho:∀ k ∈ h.ids,o' k = o k):ud o' n x y z h = ud o n x y z h:=by
 cases h with
 | ref id n=>simp only [ud];rw [ho id (by simp [HV.ids])]
 | win id n i m=>simp only [ud];rw [ho id (by simp [HV.ids])]
 | _=>rfl
theorem a7p {x:Operand} {l:List Operand} {F:bd → HV → Option Out} {α:Type} {d:α} {G:Option Out → α} (hF:∀ h:HV,(∀ k ∈ h.ids,o' k = o k) → F o' h = F o h) (hl:x ∈ l) (ho:∀ k ∈ d4 e l,o' k = o k) :
 (match e x with | some (.v (.one h))=>G (F o' h) | _=>d) = (match e x with | some (.v (.one h))=>G (F o h) | _=>d):=by
 cases hex:e x with
 | none=>rfl
 | some r =>
  cases r with
  | tup l=>rfl
  | v cc =>
   cases cc with
   | agg l=>rfl
   | one h =>
    dsimp only
    rw [hF h fun k hk=>ho k (ef hex hl k hk)]
theorem a69 {b:Builtin} {args:List Operand} {tys:List TypeId} (h:∀ x ∈ args,e' x = e x) (ho:∀ k ∈ d4 e args,o' k = o k):pg E o' e' b args tys = pg E o e b args tys:=by
 unfold pg
 split
 · rename_i x t r
   rw [h x (by simp)]
   cases E t with
   | none=>rfl
   | some ti =>
    dsimp only
    cases ti.k <;> try rfl
    exact a7p (G:=id) (F:=a13) (fun h hh=>aep hh) (by simp) ho
 · rfl
theorem acs {x:Operand} (ho:∀ k ∈ d4 e [x],o' k = o k):nk o' e x = nk o e x:=by
 unfold nk
 cases hex:e x with
 | none=>rfl
 | some r =>
  cases r with
  | tup l=>rfl
  | v cc =>
   cases cc with
   | agg l=>rfl
   | one h =>
    have:=vm (o:=o) (o':=o') (h:=h) (fun k hk=>ho k (ef hex (by simp) k hk))
    cases h with
    | p x=>cases x <;> rfl
    | ref id n=>rfl
    | ptr id off=>dsimp only;rw [this]
    | eptr id n i j=>dsimp only;rw [this]
    | win id n i m=>rfl
    | clo g k caps=>rfl
    | row id i k=>rfl
    | rptr id i k r j=>dsimp only;rw [this]
    | pin id n ad cap=>rfl
theorem a9f {t:TypeId} {x:Operand} (ho:∀ k ∈ d4 e [x],o' k = o k):kd E o' e t x = kd E o e t x:=by
 unfold kd
 cases E t with
 | none=>rfl
 | some i =>
  dsimp only
  cases hex:e x with
  | none=>rfl
  | some r =>
   cases r with
   | tup l=>rfl
   | v cc =>
    cases cc with
    | agg l=>rfl
    | one h =>
     dsimp only
     rw [vm (o:=o) (o':=o') (h:=h) (fun k hk=>ho k (ef hex (by simp) k hk))]
theorem a20 {t:TypeId} {x:Operand} {k:Nat} (ho:∀ k ∈ d4 e [x],o' k = o k):f3 E o' e t x k = f3 E o e t x k:=by
 unfold f3
 cases E t with
 | none=>rfl
 | some i =>
  dsimp only
  cases i.k <;> try rfl
  rename_i fs
  dsimp only
  cases fs[k]? with
  | none=>rfl
  | some q =>
   obtain ⟨off,ft,bl⟩:=q
   dsimp only
   cases E ft with
   | none=>rfl
   | some fi =>
    dsimp only
    cases hex:e x with
    | none=>rfl
    | some r =>
     cases r with
     | tup l=>rfl
     | v cc =>
      cases cc with
      | agg l=>rfl
      | one h =>
       dsimp only
       rw [vm (o:=o) (o':=o') (h:=h) (fun k hk=>ho k (ef hex (by simp) k hk))]
theorem a3m {len:Nat} {el:TypeId} {x i:Operand} (ho:∀ k ∈ d4 e [x],o' k = o k):kj E o' e len el x i = kj E o e len el x i:=by
 unfold kj
 cases E el with
 | none=>rfl
 | some ei =>
  dsimp only
  cases hex:e x with
  | none=>rfl
  | some r =>
   cases r with
   | tup l=>rfl
   | v cc =>
    cases cc with
    | agg l=>rfl
    | one h =>
     dsimp only
     rw [vm (o:=o) (o':=o') (h:=h) (fun k hk=>ho k (ef hex (by simp) k hk))]
theorem a23 {t:TypeId} {x i:Operand} (ho:∀ k ∈ d4 e [x],o' k = o k):fj E o' e t x i = fj E o e t x i:=by
 unfold fj
 cases E t with
 | none=>rfl
 | some ii =>
  dsimp only
  cases ii.k <;> try rfl
  case array len el=>exact a3m ho
  rename_i el
  dsimp only
  cases E el with
  | none=>rfl
  | some ei =>
   dsimp only
   cases hex:e x with
   | none=>rfl
   | some r =>
    cases r with
    | tup l=>rfl
    | v cc =>
     cases cc with
     | agg l=>rfl
     | one h =>
      dsimp only
      have:=fun iv=>aeq (o:=o) (o':=o') (h:=h) (n:=ei.size) (i:=iv) (fun k hk=>ho k (ef hex (by simp) k hk))
      simp only [this]
theorem adb {h:HV} {kk:KK} {m:MK} {z:Value} {cm:Bool} (ho:∀ k ∈ h.ids,o' k = o k):a59 o' kk m z cm h = a59 o kk m z cm h:=by
 cases h with
 | ref id n=>simp only [a59];rw [ho id (by simp [HV.ids])]
 | _=>rfl
theorem a6w {t:TypeId} {x i:Operand} {cm:Bool} (ho:∀ k ∈ d4 e [x],o' k = o k):j2 E o' e t x i cm = j2 E o e t x i cm:=by
 unfold j2
 cases E t with
 | none=>rfl
 | some ii =>
  dsimp only
  cases ii.k <;> try rfl
  rename_i kt et
  dsimp only
  cases afh E kt et with
  | none=>rfl
  | some q =>
   obtain ⟨kk,z⟩:=q
   dsimp only
   cases hex:e x with
   | none=>rfl
   | some r =>
    cases r with
    | tup l=>rfl
    | v cc =>
     cases cc with
     | agg l=>rfl
     | one h =>
      dsimp only
      have:=fun m=>adb (o:=o) (o':=o') (h:=h) (kk:=kk) (m:=m) (z:=z) (cm:=cm) (fun k hk=>ho k (ef hex (by simp) k hk))
      simp only [this]
theorem a8o {h:HV} {op:BinOp} (ho:∀ k ∈ h.ids,o' k = o k):x8 o' op h = x8 o op h:=by
 cases h with
 | ptr id n=>simp only [x8];rw [ho id (by simp [HV.ids])]
 | p x=>cases x with
  | raw v=>cases v <;> rfl
  | _=>rfl
 | _=>rfl
theorem a7g {op:BinOp} {t:TypeId} {x y:Operand} (ho:∀ k ∈ d4 e [x],o' k = o k):j0 E o' e op t x y = j0 E o e op t x y:=by
 unfold j0
 split <;> try rfl
 cases E t with
 | none=>rfl
 | some ii =>
  dsimp only
  cases ii.k <;> try rfl
  dsimp only
  cases hex:e x with
  | none=>rfl
  | some r =>
   cases r with
   | tup l=>rfl
   | v cc =>
    cases cc with
    | agg l=>rfl
    | one h=>exact a8o (fun k hk=>ho k (ef hex (by simp) k hk))
theorem alm {op:Op} (hx:∀ x ∈ op.operands,e' x = e x) (ho:∀ k ∈ d4 e op.operands.toList,o' k = o k):hq E ex o' e' op = hq E ex o e op:=by
 cases op <;> try rfl
 case move x=>show Option.map _ (e' x) = Option.map _ (e x);rw [hx x (by simp [Op.operands])]
 case assign x=>show Option.map _ (e' x) = Option.map _ (e x);rw [hx x (by simp [Op.operands])]
 case pick c x y =>
  show x4 e' c x y = x4 e c x y
  unfold x4
  rw [hx c (by simp [Op.operands]),hx x (by simp [Op.operands]),hx y (by simp [Op.operands])]
 case nilCheck x =>
  show nk o' e' x = nk o e x
  have h1:nk o' e' x = nk o' e x:=by unfold nk;rw [hx x (by simp [Op.operands])]
  rw [h1]
  exact acs (by simpa [Op.operands] using ho)
 case load t x =>
  show kd E o' e' t x = kd E o e t x
  have h1:kd E o' e' t x = kd E o' e t x:=by unfold kd;rw [hx x (by simp [Op.operands])]
  rw [h1]
  exact a9f (by simpa [Op.operands] using ho)
 case fieldAddr t x k =>
  show f3 E o' e' t x k = f3 E o e t x k
  have h1:f3 E o' e' t x k = f3 E o' e t x k:=by unfold f3;rw [hx x (by simp [Op.operands])]
  rw [h1]
  exact a20 (by simpa [Op.operands] using ho)
 case field t x k =>
  show sw E e' t x k = sw E e t x k
  unfold sw
  rw [hx x (by simp [Op.operands])]
 case indexAddr t x i =>
  show fj E o' e' t x i = fj E o e t x i
  have h1:fj E o' e' t x i = fj E o' e t x i:=by unfold fj kj;rw [hx x (by simp [Op.operands]),hx i (by simp [Op.operands])]
  rw [h1]
  refine a23 fun k hk=>ho k ?_
  simp only [d4,Op.operands,List.append_nil] at hk ⊢
  exact List.mem_append_left _ hk
 case lookup t x i cm =>
  show j2 E o' e' t x i cm = j2 E o e t x i cm
  have h1:j2 E o' e' t x i cm = j2 E o' e t x i cm:=by unfold j2;rw [hx x (by simp [Op.operands]),hx i (by simp [Op.operands])]
  rw [h1]
  refine a6w fun k hk=>ho k ?_
  simp only [d4,Op.operands,List.append_nil] at hk ⊢
  exact List.mem_append_left _ hk
 case index t x i =>
  show ta E e' t x i = ta E e t x i
  unfold ta
  rw [hx x (by simp [Op.operands]),hx i (by simp [Op.operands])]
 case binOp op t x y ty =>
  have h1:a1g E ex e' op t x y = a1g E ex e op t x y:=by
   unfold a1g
   rw [hx x (by simp [Op.operands]),hx y (by simp [Op.operands])]
  have h2:pf E e' op t x y = pf E e op t x y:=by
   unfold pf
   rw [hx x (by simp [Op.operands])]
  have h3:j0 E o' e' op t x y = j0 E o e op t x y:=by
   have h1:j0 E o' e' op t x y = j0 E o' e op t x y:=by unfold j0;rw [hx x (by simp [Op.operands])]
   rw [h1]
   refine a7g fun k hk=>ho k ?_
   simp only [d4,Op.operands,List.append_nil] at hk ⊢
   exact List.mem_append_left _ hk
  simp only [hq]
  rw [h1,h2,h3]
 case unOp op t x =>
  show a6f ex e' op x = a6f ex e op x
  unfold a6f
  rw [hx x (by simp [Op.operands])]
 case convert src dst x =>
  show xl E ex e' src dst x = xl E ex e src dst x
  unfold xl
  rw [hx x (by simp [Op.operands])]
 case extract x i =>
  show o7 e' x i = o7 e x i
  unfold o7
  rw [hx x (by simp [Op.operands])]
 case slice t x lo hi mx =>
  have e0:=hx x (by simp [Op.operands])
  have e1:=jz (e:=e) (e':=e') (x:=lo) (fun y hy=>hx y (by simp [Op.operands];simp at hy;simp [hy]))
  have e2:=jz (e:=e) (e':=e') (x:=hi) (fun y hy=>hx y (by simp [Op.operands];simp at hy;simp [hy]))
  have e3:=jz (e:=e) (e':=e') (x:=mx) (fun y hy=>hx y (by simp [Op.operands];simp at hy;simp [hy]))
  have h1:jd E e' t x lo hi mx = jd E e t x lo hi mx:=by
   unfold jd
   rw [e0,e1,e2,e3]
  have h2:a1q E o' e' t x lo hi mx = a1q E o e t x lo hi mx:=by
   unfold a1q
   rw [e0,e1,e2,e3]
   cases E t with
   | none=>rfl
   | some ti =>
    dsimp only
    cases ti.k <;> try rfl
    rename_i el
    dsimp only
    cases E el with
    | none=>rfl
    | some ei =>
     dsimp only
     cases gm e lo with
     | none=>rfl
     | some l =>
      cases gm e hi with
      | none=>rfl
      | some hh =>
       cases gm e mx with
       | none=>rfl
       | some m =>
        dsimp only
        exact a7p (G:=id) (F:=fun o h=>ud o ei.size l hh m h) (fun h hh=>abw hh) (l:=(Op.slice t x lo hi mx).operands.toList) (by simp [Op.operands]) ho
  simp only [hq]
  rw [h1,h2]
 case makeFunc fn first caps =>
  show xp e' fn first.toList caps.toList = xp e fn first.toList caps.toList
  unfold xp
  rw [a2a (l:=caps.toList) (fun y hy=>hx y (by simp [Op.operands];simp at hy;exact .inr hy)),a28 (l:=caps.toList) (fun y hy=>hx y (by simp [Op.operands];simp at hy;exact .inr hy))]
  split
  · rfl
  · rename_i f x hf
    rw [hx x (by simp [Op.operands];left;rw [← Array.mem_toList_iff,hf];simp)]
  · rfl
 case build t parts =>
  show sy E e' t parts.toList = sy E e t parts.toList
  have hf:∀ places cells,gi e' places cells parts.toList = gi e places cells parts.toList:=fun places cells=>w9 fun x hm=>hx x (by simpa [Op.operands] using hm)
  unfold sy
  simp only [hf]
 case call c =>
  simp only [hq]
  cases hc:c.callee with
  | value f=>rfl
  | invoke r m=>rfl
  | builtin b =>
   simp only [Op.operands,Call.operands,hc] at hx ho
   have h1:∀ x ∈ c.args.toList,e' x = e x:=fun x hm=>hx x (by simpa using hm)
   have h2:∀ k ∈ d4 e c.args.toList,o' k = o k:=fun k hk=>ho k (by simpa using hk)
   dsimp only
   rw [a47 h1,a69 h1 h2]
theorem ajv {op:Op} {id:Nat} (hx:∀ x ∈ op.operands,e' x = e x):ha E e' id op = ha E e id op:=by
 cases op <;> simp only [ha] <;> simp only [Op.operands] at hx
 case box t x=>rw [hx x (by simp)]
 case buildSlice t n parts =>
  have hf:∀ sz cells,a1p e' sz n parts.toList cells = a1p e sz n parts.toList cells:=fun sz cells=>by
   unfold a1p
   exact w9 fun x hm=>hx x (by simpa using hm)
  simp only [hf]
 case makeSlice t l c=>rw [hx l (by simp),hx c (by simp)]
theorem a8q {t:TypeId} {x y:Operand} (ho:∀ k ∈ d4 e [x,y],o' k = o k):jc E o' e t x y = jc E o e t x y:=by
 unfold jc
 cases E t with
 | none=>rfl
 | some i =>
  cases hv:e y with
  | none=>rfl
  | some rv =>
   cases rv with
   | tup l=>rfl
   | v cv =>
    cases hex:e x with
    | none=>rfl
    | some r =>
     cases r with
     | tup l=>rfl
     | v cc =>
      cases cc with
      | agg l=>rfl
      | one h =>
       cases h with
       | p x=>cases x <;> rfl
       | ref id n=>rfl
       | ptr id off=>dsimp only;rw [ho id (ef hex (by simp) id (by simp [HR.ids,HC.ids,HV.ids]))]
       | eptr id n r j=>dsimp only;rw [ho id (ef hex (by simp) id (by simp [HR.ids,HC.ids,HV.ids]))]
       | win id n i m=>rfl
       | clo g k caps=>rfl
       | row id i k=>rfl
       | rptr id i k r j=>dsimp only;rw [ho id (ef hex (by simp) id (by simp [HR.ids,HC.ids,HV.ids]))]
       | pin id n ad cap=>rfl
theorem aac {h:HV} {kk:KK} {m:MK} {y:PV} (ho:∀ k ∈ h.ids,o' k = o k):zx o' kk m y h = zx o kk m y h:=by
 cases h with
 | ref id n=>simp only [zx];rw [ho id (by simp [HV.ids])]
 | _=>rfl
theorem a2b {t:TypeId} {x i v:Operand} (ho:∀ k ∈ d4 e [x],o' k = o k):ji E o' e t x i v = ji E o e t x i v:=by
 unfold ji
 cases E t with
 | none=>rfl
 | some ii =>
  dsimp only
  cases ii.k <;> try rfl
  rename_i kt et
  dsimp only
  cases E kt with
  | none=>rfl
  | some ki =>
   dsimp only
   cases hex:e x with
   | none=>rfl
   | some r =>
    cases r with
    | tup l=>rfl
    | v cc =>
     cases cc with
     | agg l=>rfl
     | one h =>
      dsimp only
      have:=fun kk m y=>aac (o:=o) (o':=o') (h:=h) (kk:=kk) (m:=m) (y:=y) (fun k hk=>ho k (ef hex (by simp) k hk))
      simp only [this]
theorem ab1 {op:Op} (hx:∀ x ∈ op.operands,e' x = e x) (ho:∀ k ∈ d4 e op.operands.toList,o' k = o k):hs E o' e' op = hs E o e op:=by
 cases op <;> try rfl
 case mapUpdate t x i v =>
  show ji E o' e' t x i v = ji E o e t x i v
  have h1:ji E o' e' t x i v = ji E o' e t x i v:=by unfold ji;rw [hx x (by simp [Op.operands]),hx i (by simp [Op.operands]),hx v (by simp [Op.operands])]
  rw [h1]
  refine a2b fun k hk=>ho k ?_
  simp only [d4,Op.operands,List.append_nil] at hk ⊢
  exact List.mem_append_left _ hk
 case insert t x i v =>
  show ji E o' e' t x i v = ji E o e t x i v
  have h1:ji E o' e' t x i v = ji E o' e t x i v:=by unfold ji;rw [hx x (by simp [Op.operands]),hx i (by simp [Op.operands]),hx v (by simp [Op.operands])]
  rw [h1]
  refine a2b fun k hk=>ho k ?_
  simp only [d4,Op.operands,List.append_nil] at hk ⊢
  exact List.mem_append_left _ hk
 case store t addr v =>
  show jc E o' e' t addr v = jc E o e t addr v
  have h1:jc E o' e' t addr v = jc E o' e t addr v:=by unfold jc;rw [hx addr (by simp [Op.operands]),hx v (by simp [Op.operands])]
  rw [h1]
  exact a8q (by simpa [Op.operands] using ho)
theorem a2k {id:Nat} {h:HV} (ho:∀ k ∈ h.ids,o' k = o k):ss o' id h = ss o id h:=by
 cases h with
 | p x =>
  cases x with
  | raw v =>
   cases v with
   | slice a n c=>cases n <;> rfl
   | _=>rfl
  | _=>rfl
 | ref id' n=>simp only [ss];rw [ho id' (by simp [HV.ids])]
 | _=>rfl
theorem w7 {id n:Nat} {wb:Bool} {el:TypeId} {y:HV} (hid:o' id = o id) (ho:∀ k ∈ y.ids,o' k = o k):nf E o' id n wb el y = nf E o id n wb el y:=by
 simp only [nf]
 rw [hid,a2k ho]
theorem a4y {id:Nat} {h:HV} (ho:∀ k ∈ h.ids,o' k = o k):a0b o' id h = a0b o id h:=by
 simp only [a0b]
 rw [a2k ho]
 cases h with
 | ref id' n=>simp only;rw [ho id' (by simp [HV.ids])]
 | _=>rfl
theorem a9r {id n:Nat} {el:TypeId} {y:HV} (hid:o' id = o id) (ho:∀ k ∈ y.ids,o' k = o k):tu E o' id n el y = tu E o id n el y:=by
 simp only [tu]
 rw [hid,a4y ho]
theorem afo {id n:Nat} {el:TypeId} {y:HV} (hid:o' id = o id) (ho:∀ k ∈ y.ids,o' k = o k):a2y E o' id n el y = a2y E o id n el y:=by
 simp only [a2y]
 rw [hid,a4y ho]
theorem acq {el:TypeId} {id n i k:Nat} {y:HV} (hid:o' id = o id):yz E o' el id n i k y = yz E o el id n i k y:=by
 unfold yz
 rw [hid]
theorem aev {h:HV} {z:List Value} {n:Nat} (ho:∀ k ∈ h.ids,o' k = o k):a7j o' z n h = a7j o z n h:=by
 cases h with
 | win id n i m=>simp only [a7j];rw [ho id (by simp [HV.ids])]
 | _=>rfl
theorem acu {id:Nat} {wb:Bool} {el:TypeId} {hy hx:HV} (h1:∀ k ∈ hx.ids,o' k = o k) (h2:∀ k ∈ hy.ids,o' k = o k):s8 E o' id wb el hy hx = s8 E o id wb el hy hx:=by
 cases hx with
 | win id1 n i k =>
  simp only [s8]
  exact acq (h1 id1 (by simp [HV.ids]))
 | pin id1 n ad cap =>
  simp only [s8]
  rw [w7 (o:=o) (o':=o') (h1 id1 (by simp [HV.ids])) h2]
 | ref id1 n =>
  simp only [s8]
  rw [w7 (o:=o) (o':=o') (h1 id1 (by simp [HV.ids])) h2,a9r (o:=o) (o':=o') (h1 id1 (by simp [HV.ids])) h2,afo (o:=o) (o':=o') (h1 id1 (by simp [HV.ids])) h2]
 | p px =>
  cases px with
  | sl n sz cl f =>
   cases cl with
   | false=>rfl
   | true =>
    simp only [s8]
    cases E el with
    | none=>rfl
    | some ei =>
     dsimp only
     rw [w7 (o:=fun k=>if k = id then some (ah.arr false ei.size el n f) else o k) (o':=fun k=>if k = id then some (ah.arr false ei.size el n f) else o' k) (by simp) (fun k hk=>by
      try dsimp only
      split
      · rfl
      · exact h2 k hk)]
  | _=>rfl
 | _=>rfl
theorem acx {id:Nat} {wb:Bool} {t:TypeId} {x y:Option HR} (hx:∀ r,x = some r → ∀ k ∈ r.ids,o' k = o k) (hy:∀ r,y = some r → ∀ k ∈ r.ids,o' k = o k) :
 a1c E o' id wb t x y = a1c E o id wb t x y:=by
 unfold a1c
 cases E t with
 | none=>rfl
 | some i =>
  dsimp only
  cases i.k <;> try rfl
  rename_i el
  cases x with
  | none=>rfl
  | some rx =>
   cases rx with
   | tup l=>rfl
   | v cx =>
    cases cx with
    | agg l=>rfl
    | one hxv =>
     cases y with
     | none=>rfl
     | some ry =>
      cases ry with
      | tup l=>rfl
      | v cy =>
       cases cy with
       | agg l=>rfl
       | one hyv=>exact acu (hx _ rfl) (hy _ rfl)
theorem agd {op:Op} {id:Nat} {wb:Bool} (hx:∀ x ∈ op.operands,e' x = e x) (ho:∀ k ∈ d4 e op.operands.toList,o' k = o k):hap E o' e' id wb op = hap E o e id wb op:=by
 cases op <;> try rfl
 case call c =>
  unfold hap
  dsimp only
  split
  · rename_i hc
    simp only [Op.operands,Call.operands,hc] at hx ho
    have h1:∀ x ∈ c.args.toList,e' x = e x:=fun x hm=>hx x (by simpa using hm)
    have h2:∀ k ∈ d4 e c.args.toList,o' k = o k:=fun k hk=>ho k (by simpa using hk)
    generalize c.args.toList = l at h1 h2
    unfold a1e
    split
    · rename_i x y t t' _
      split
      · rw [h1 x (by simp),h1 y (by simp)]
        exact acx (fun r hr k hk=>h2 k (ef hr (by simp) k hk)) (fun r hr k hk=>h2 k (ef hr (by simp) k hk))
      · rfl
    · rfl
  · rename_i hc
    simp only [Op.operands,Call.operands,hc] at hx ho
    have h1:∀ x ∈ c.args.toList,e' x = e x:=fun x hm=>hx x (by simpa using hm)
    have h2:∀ k ∈ d4 e c.args.toList,o' k = o k:=fun k hk=>ho k (by simpa using hk)
    generalize c.args.toList = l at h1 h2
    unfold uf
    split
    · rename_i x t _
      rw [h1 x (by simp)]
      cases E t with
      | none=>rfl
      | some ti =>
       dsimp only
       cases ti.k <;> try rfl
       rename_i el
       dsimp only
       cases E el with
       | none=>rfl
       | some ei =>
        dsimp only
        cases ei.zero with
        | none=>rfl
        | some z =>
         dsimp only
         split
         · cases hex:e x with
           | none=>rfl
           | some r =>
            cases r with
            | tup l=>rfl
            | v cc =>
             cases cc with
             | agg l=>rfl
             | one hv=>exact aev fun k hk=>h2 k (ef hex (by simp) k hk)
         · rfl
    · rfl
  · rfl
theorem a2e {h:HV} (ho:∀ k ∈ h.ids,o' k = o k):yj o' h = yj o h:=by
 cases h with
 | ref id n=>simp only [yj];rw [ho id (by simp [HV.ids])]
 | _=>rfl
end
end Go.Hx
end
