/- A part of the proof: Hx11. -/
import Derived.Test.YtodligmokcbbkaaDoorPx10
set_option linter.all false
section
namespace Go.Hx
open Go.RowKit
section
variable {E:Env} {ex:Bool} {o o':au} {e e':Ev}
theorem cu {x:Operand} {r:HR} (hx:e x = some r):∀ {l:List Operand},x ∈ l → ∀ k ∈ r.ids,k ∈ bt e l
 | y :: l,hm,k,hk=>by
  rcases List.mem_cons.1 hm with rfl | hm
  · simp only [bt,hx];exact List.mem_append_left _ hk
  · simp only [bt];exact List.mem_append_right _ (cu hx hm k hk)
theorem ky:∀ {l:List Operand},(∀ x ∈ l,e' x = e x) → bt e' l = bt e l
 | [],_=>rfl
 | x :: l,h=>by
  simp only [bt]
  rw [h x (by simp),ky fun y hy=>h y (by simp [hy])]
theorem sg {h:HV} (ho:∀ k ∈ h.ids,o' k = o k):tgt o' h = tgt o h:=by
 cases h with
 | p x=>cases x <;> rfl
 | ref id n=>rfl
 | ptr id off=>simp only [tgt];rw [ho id (by simp [HV.ids])]
 | eptr id n i j=>simp only [tgt];rw [ho id (by simp [HV.ids])]
 | win id n i m=>rfl
 | clo g k caps=>rfl
 | row id i k=>rfl
 | rptr id i k r j=>simp only [tgt];rw [ho id (by simp [HV.ids])]
 | pin id n ad cap=>rfl
theorem th {places:List (Nat × Nat)}:∀ {parts:List (Nat × Operand)} {cells:List HV},(∀ x ∈ parts.map (·.2),e' x = e x) → eq e' places cells parts = eq e places cells parts
 | [],_,_=>rfl
 | (i,x) :: r,cells,h=>by
  have hx:=h x (by simp)
  have ih:∀ cells,eq e' places cells r = eq e places cells r:=fun cells=>th fun y hy=>h y (by simp at hy ⊢;exact .inr hy)
  simp only [eq,hx,ih]
theorem a0o:∀ {l:List Operand},(∀ x ∈ l,e' x = e x) → sj e' l = sj e l
 | [],_=>rfl
 | x :: l,h=>by
  simp only [sj]
  rw [h x (by simp),a0o fun y hy=>h y (by simp [hy])]
theorem a0x:∀ {l:List Operand},(∀ x ∈ l,e' x = e x) → rh e' l = rh e l
 | [],_=>rfl
 | x :: l,h=>by
  simp only [rh]
  rw [h x (by simp),a0x fun y hy=>h y (by simp [hy])]
theorem iu {x:Option Operand} (h:∀ y ∈ x.toList,e' y = e y):ez e' x = ez e x:=by
 cases x with
 | none=>rfl
 | some y=>simp only [ez];rw [h y (by simp)]
theorem a42 {b:Builtin} {args:List Operand} {tys:List TypeId} (h:∀ x ∈ args,e' x = e x):lw E e' b args tys = lw E e b args tys:=by
 unfold lw
 split
 · rename_i x t r
   rw [h x (by simp)]
 · rename_i x y
   rw [h x (by simp),h y (by simp)]
 · rename_i x y
   rw [h x (by simp),h y (by simp)]
 · rfl
theorem ad1 {h:HV} (ho:∀ k ∈ h.ids,o' k = o k):yb o' h = yb o h:=by
 cases h with
 | ref id n=>simp only [yb];rw [ho id (by simp [HV.ids])]
 | win id n i m=>simp only [yb];rw [ho id (by simp [HV.ids])]
 | row id i k=>simp only [yb];rw [ho id (by simp [HV.ids])]
 | _=>rfl
theorem acp {h:HV} {n:Nat} {i:Int} (ho:∀ k ∈ h.ids,o' k = o k):a1r o' n i h = a1r o n i h:=by
 cases h with
 | ref id n=>simp only [a1r];rw [ho id (by simp [HV.ids])]
 | win id n i m=>simp only [a1r];rw [ho id (by simp [HV.ids])]
 | row id i k=>simp only [a1r];rw [ho id (by simp [HV.ids])]
 | p x=>cases x <;> rfl
 | _=>rfl
theorem a7q {h:HV} {n:Nat} {x y z:Option Int} (ho:∀ k ∈ h.ids,o' k = o k):qx o' n x y z h = qx o n x y z h:=by
 cases h with
 | ref id n=>simp only [qx];rw [ho id (by simp [HV.ids])]
 | win id n i m=>simp only [qx];rw [ho id (by simp [HV.ids])]
 | _=>rfl
theorem a5z {x:Operand} {l:List Operand} {F:au → HV → Option Out} {α:Type} {d:α} {G:Option Out → α} (hF:∀ h:HV,(∀ k ∈ h.ids,o' k = o k) → F o' h = F o h) (hl:x ∈ l) (ho:∀ k ∈ bt e l,o' k = o k) :
 (match e x with | some (.v (.one h))=>G (F o' h) | _=>d) = (match e x with | some (.v (.one h))=>G (F o h) | _=>d):=by
 cases hex:e x with
 | none=>rfl
 | some r =>
  cases r with
  | tup l=>rfl
  | v cc =>
   cases cc with
   | agg l=>rfl
   | one h =>
    dsimp only
    rw [hF h fun k hk=>ho k (cu hex hl k hk)]
theorem a4a {b:Builtin} {args:List Operand} {tys:List TypeId} (h:∀ x ∈ args,e' x = e x) (ho:∀ k ∈ bt e args,o' k = o k):n8 E o' e' b args tys = n8 E o e b args tys:=by
 unfold n8
 split
 · rename_i x t r
   rw [h x (by simp)]
   cases E t with
   | none=>rfl
   | some ti =>
    dsimp only
    cases ti.k <;> try rfl
    exact a5z (G:=id) (F:=yb) (fun h hh=>ad1 hh) (by simp) ho
 · rfl
theorem a9y {x:Operand} (ho:∀ k ∈ bt e [x],o' k = o k):l8 o' e x = l8 o e x:=by
 unfold l8
 cases hex:e x with
 | none=>rfl
 | some r =>
  cases r with
  | tup l=>rfl
  | v cc =>
   cases cc with
   | agg l=>rfl
   | one h =>
    have:=sg (o:=o) (o':=o') (h:=h) (fun k hk=>ho k (cu hex (by simp) k hk))
    cases h with
    | p x=>cases x <;> rfl
    | ref id n=>rfl
    | ptr id off=>dsimp only;rw [this]
    | eptr id n i j=>dsimp only;rw [this]
    | win id n i m=>rfl
    | clo g k caps=>rfl
    | row id i k=>rfl
    | rptr id i k r j=>dsimp only;rw [this]
    | pin id n ad cap=>rfl
theorem a8a {t:TypeId} {x:Operand} (ho:∀ k ∈ bt e [x],o' k = o k):ir E o' e t x = ir E o e t x:=by
 unfold ir
 cases E t with
 | none=>rfl
 | some i =>
  dsimp only
  cases hex:e x with
  | none=>rfl
  | some r =>
   cases r with
   | tup l=>rfl
   | v cc =>
    cases cc with
    | agg l=>rfl
    | one h =>
     dsimp only
     rw [sg (o:=o) (o':=o') (h:=h) (fun k hk=>ho k (cu hex (by simp) k hk))]
theorem a09 {t:TypeId} {x:Operand} {k:Nat} (ho:∀ k ∈ bt e [x],o' k = o k):dn E o' e t x k = dn E o e t x k:=by
 unfold dn
 cases E t with
 | none=>rfl
 | some i =>
  dsimp only
  cases i.k <;> try rfl
  rename_i fs
  dsimp only
  cases fs[k]? with
  | none=>rfl
  | some q =>
   obtain ⟨off,ft,bl⟩:=q
   dsimp only
   cases E ft with
   | none=>rfl
   | some fi =>
    dsimp only
    cases hex:e x with
    | none=>rfl
    | some r =>
     cases r with
     | tup l=>rfl
     | v cc =>
      cases cc with
      | agg l=>rfl
      | one h =>
       dsimp only
       rw [sg (o:=o) (o':=o') (h:=h) (fun k hk=>ho k (cu hex (by simp) k hk))]
theorem a17 {len:Nat} {el:TypeId} {x i:Operand} (ho:∀ k ∈ bt e [x],o' k = o k):j8 E o' e len el x i = j8 E o e len el x i:=by
 unfold j8
 cases E el with
 | none=>rfl
 | some ei =>
  dsimp only
  cases hex:e x with
  | none=>rfl
  | some r =>
   cases r with
   | tup l=>rfl
   | v cc =>
    cases cc with
    | agg l=>rfl
    | one h =>
     dsimp only
     rw [sg (o:=o) (o':=o') (h:=h) (fun k hk=>ho k (cu hex (by simp) k hk))]
theorem a0b {t:TypeId} {x i:Operand} (ho:∀ k ∈ bt e [x],o' k = o k):du E o' e t x i = du E o e t x i:=by
 unfold du
 cases E t with
 | none=>rfl
 | some ii =>
  dsimp only
  cases ii.k <;> try rfl
  case array len el=>exact a17 ho
  rename_i el
  dsimp only
  cases E el with
  | none=>rfl
  | some ei =>
   dsimp only
   cases hex:e x with
   | none=>rfl
   | some r =>
    cases r with
    | tup l=>rfl
    | v cc =>
     cases cc with
     | agg l=>rfl
     | one h =>
      dsimp only
      have:=fun iv=>acp (o:=o) (o':=o') (h:=h) (n:=ei.size) (i:=iv) (fun k hk=>ho k (cu hex (by simp) k hk))
      simp only [this]
theorem aa1 {h:HV} {kk:KK} {m:MK} {z:Value} {cm:Bool} (ho:∀ k ∈ h.ids,o' k = o k):a3d o' kk m z cm h = a3d o kk m z cm h:=by
 cases h with
 | ref id n=>simp only [a3d];rw [ho id (by simp [HV.ids])]
 | p y=>cases y <;> rfl
 | _=>rfl
theorem a4n {t:TypeId} {x i:Operand} {cm:Bool} (ho:∀ k ∈ bt e [x],o' k = o k):ge E o' e t x i cm = ge E o e t x i cm:=by
 unfold ge
 cases E t with
 | none=>rfl
 | some ii =>
  dsimp only
  cases ii.k <;> try rfl
  rename_i kt et
  dsimp only
  cases a6w E kt et with
  | none=>rfl
  | some q =>
   obtain ⟨kk,z⟩:=q
   dsimp only
   cases hex:e x with
   | none=>rfl
   | some r =>
    cases r with
    | tup l=>rfl
    | v cc =>
     cases cc with
     | agg l=>rfl
     | one h =>
      dsimp only
      have:=fun m=>aa1 (o:=o) (o':=o') (h:=h) (kk:=kk) (m:=m) (z:=z) (cm:=cm) (fun k hk=>ho k (cu hex (by simp) k hk))
      simp only [this]
theorem a6o {h:HV} {op:BinOp} (ho:∀ k ∈ h.ids,o' k = o k):tx o' op h = tx o op h:=by
 cases h with
 | ptr id n=>simp only [tx];rw [ho id (by simp [HV.ids])]
 | p x=>cases x with
  | raw v=>cases v <;> rfl
  | _=>rfl
 | _=>rfl
theorem a4c {op:BinOp} {t:TypeId} {x y:Operand} (ho:∀ k ∈ bt e [x],o' k = o k):gi E o' e op t x y = gi E o e op t x y:=by
 unfold gi
 split <;> try rfl
 cases E t with
 | none=>rfl
 | some ii =>
  dsimp only
  cases ii.k <;> try rfl
  dsimp only
  cases hex:e x with
  | none=>rfl
  | some r =>
   cases r with
   | tup l=>rfl
   | v cc =>
    cases cc with
    | agg l=>rfl
    | one h=>exact a6o (fun k hk=>ho k (cu hex (by simp) k hk))
theorem ahx {op:Op} (hx:∀ x ∈ op.operands,e' x = e x) (ho:∀ k ∈ bt e op.operands.toList,o' k = o k):hq E ex o' e' op = hq E ex o e op:=by
 cases op <;> try rfl
 case move x=>show Option.map _ (e' x) = Option.map _ (e x);rw [hx x (by simp [Op.operands])]
 case assign x=>show Option.map _ (e' x) = Option.map _ (e x);rw [hx x (by simp [Op.operands])]
 case pick c x y =>
  show uw e' c x y = uw e c x y
  unfold uw
  rw [hx c (by simp [Op.operands]),hx x (by simp [Op.operands]),hx y (by simp [Op.operands])]
 case nilCheck x =>
  show l8 o' e' x = l8 o e x
  have h1:l8 o' e' x = l8 o' e x:=by unfold l8;rw [hx x (by simp [Op.operands])]
  rw [h1]
  exact a9y (by simpa [Op.operands] using ho)
 case load t x =>
  show ir E o' e' t x = ir E o e t x
  have h1:ir E o' e' t x = ir E o' e t x:=by unfold ir;rw [hx x (by simp [Op.operands])]
  rw [h1]
  exact a8a (by simpa [Op.operands] using ho)
 case fieldAddr t x k =>
  show dn E o' e' t x k = dn E o e t x k
  have h1:dn E o' e' t x k = dn E o' e t x k:=by unfold dn;rw [hx x (by simp [Op.operands])]
  rw [h1]
  exact a09 (by simpa [Op.operands] using ho)
 case field t x k =>
  show pk E e' t x k = pk E e t x k
  unfold pk
  rw [hx x (by simp [Op.operands])]
 case indexAddr t x i =>
  show du E o' e' t x i = du E o e t x i
  have h1:du E o' e' t x i = du E o' e t x i:=by unfold du j8;rw [hx x (by simp [Op.operands]),hx i (by simp [Op.operands])]
  rw [h1]
  refine a0b fun k hk=>ho k ?_
  simp only [bt,Op.operands,List.append_nil] at hk ⊢
  exact List.mem_append_left _ hk
 case lookup t x i cm =>
  show ge E o' e' t x i cm = ge E o e t x i cm
  have h1:ge E o' e' t x i cm = ge E o' e t x i cm:=by unfold ge;rw [hx x (by simp [Op.operands]),hx i (by simp [Op.operands])]
  rw [h1]
  refine a4n fun k hk=>ho k ?_
  simp only [bt,Op.operands,List.append_nil] at hk ⊢
  exact List.mem_append_left _ hk
 case index t x i =>
  show po E e' t x i = po E e t x i
  unfold po
  rw [hx x (by simp [Op.operands]),hx i (by simp [Op.operands])]
 case binOp op t x y ty =>
  have h1:zk E ex e' op t x y = zk E ex e op t x y:=by
   unfold zk
   rw [hx x (by simp [Op.operands]),hx y (by simp [Op.operands])]
  have h2:mr E e' op t x y = mr E e op t x y:=by
   unfold mr
   rw [hx x (by simp [Op.operands])]
  have h3:gi E o' e' op t x y = gi E o e op t x y:=by
   have h1:gi E o' e' op t x y = gi E o' e op t x y:=by unfold gi;rw [hx x (by simp [Op.operands])]
   rw [h1]
   refine a4c fun k hk=>ho k ?_
   simp only [bt,Op.operands,List.append_nil] at hk ⊢
   exact List.mem_append_left _ hk
  simp only [hq]
  rw [h1,h2,h3]
 case unOp op t x =>
  show a49 ex e' op x = a49 ex e op x
  unfold a49
  rw [hx x (by simp [Op.operands])]
 case convert src dst x =>
  show tn E ex e' src dst x = tn E ex e src dst x
  unfold tn
  rw [hx x (by simp [Op.operands])]
 case extract x i =>
  show lx e' x i = lx e x i
  unfold lx
  rw [hx x (by simp [Op.operands])]
 case slice t x lo hi mx =>
  have e0:=hx x (by simp [Op.operands])
  have e1:=iu (e:=e) (e':=e') (x:=lo) (fun y hy=>hx y (by simp [Op.operands];simp at hy;simp [hy]))
  have e2:=iu (e:=e) (e':=e') (x:=hi) (fun y hy=>hx y (by simp [Op.operands];simp at hy;simp [hy]))
  have e3:=iu (e:=e) (e':=e') (x:=mx) (fun y hy=>hx y (by simp [Op.operands];simp at hy;simp [hy]))
  have h1:gq E e' t x lo hi mx = gq E e t x lo hi mx:=by
   unfold gq
   rw [e0,e1,e2,e3]
  have h2:z6 E o' e' t x lo hi mx = z6 E o e t x lo hi mx:=by
   unfold z6
   rw [e0,e1,e2,e3]
   cases E t with
   | none=>rfl
   | some ti =>
    dsimp only
    cases ti.k <;> try rfl
    rename_i el
    dsimp only
    cases E el with
    | none=>rfl
    | some ei =>
     dsimp only
     cases ez e lo with
     | none=>rfl
     | some l =>
      cases ez e hi with
      | none=>rfl
      | some hh =>
       cases ez e mx with
       | none=>rfl
       | some m =>
        dsimp only
        exact a5z (G:=id) (F:=fun o h=>qx o ei.size l hh m h) (fun h hh=>a7q hh) (l:=(Op.slice t x lo hi mx).operands.toList) (by simp [Op.operands]) ho
  simp only [hq]
  rw [h1,h2]
 case makeFunc fn first caps =>
  show ug e' fn first.toList caps.toList = ug e fn first.toList caps.toList
  unfold ug
  rw [a0o (l:=caps.toList) (fun y hy=>hx y (by simp [Op.operands];simp at hy;exact .inr hy)),a0x (l:=caps.toList) (fun y hy=>hx y (by simp [Op.operands];simp at hy;exact .inr hy))]
  split
  · rfl
  · rename_i f x hf
    rw [hx x (by simp [Op.operands];left;rw [← Array.mem_toList_iff,hf];simp)]
  · rfl
 case build t parts =>
  show pf E e' t parts.toList = pf E e t parts.toList
  have hf:∀ places cells,eq e' places cells parts.toList = eq e places cells parts.toList:=fun places cells=>th fun x hm=>hx x (by simpa [Op.operands] using hm)
  unfold pf
  simp only [hf]
 case call c =>
  simp only [hq]
  cases hc:c.callee with
  | value f=>rfl
  | invoke r m=>rfl
  | builtin b =>
   simp only [Op.operands,Call.operands,hc] at hx ho
   have h1:∀ x ∈ c.args.toList,e' x = e x:=fun x hm=>hx x (by simpa using hm)
   have h2:∀ k ∈ bt e c.args.toList,o' k = o k:=fun k hk=>ho k (by simpa using hk)
   dsimp only
   rw [a42 h1,a4a h1 h2]
theorem ah8 {op:Op} {id:Nat} (hx:∀ x ∈ op.operands,e' x = e x):ha E e' id op = ha E e id op:=by
 cases op <;> simp only [ha] <;> simp only [Op.operands] at hx
 case box t x=>rw [hx x (by simp)]
 case buildSlice t n parts =>
  have hf:∀ sz cells,zg e' sz n parts.toList cells = zg e sz n parts.toList cells:=fun sz cells=>by
   unfold zg
   exact th fun x hm=>hx x (by simpa using hm)
  simp only [hf]
 case makeSlice t l c=>rw [hx l (by simp),hx c (by simp)]
theorem a6n {t:TypeId} {x y:Operand} (ho:∀ k ∈ bt e [x,y],o' k = o k):gp E o' e t x y = gp E o e t x y:=by
 unfold gp
 cases E t with
 | none=>rfl
 | some i =>
  cases hv:e y with
  | none=>rfl
  | some rv =>
   cases rv with
   | tup l=>rfl
   | v cv =>
    cases hex:e x with
    | none=>rfl
    | some r =>
     cases r with
     | tup l=>rfl
     | v cc =>
      cases cc with
      | agg l=>rfl
      | one h =>
       cases h with
       | p x=>cases x <;> rfl
       | ref id n=>rfl
       | ptr id off=>dsimp only;rw [ho id (cu hex (by simp) id (by simp [HR.ids,HC.ids,HV.ids]))]
       | eptr id n r j=>dsimp only;rw [ho id (cu hex (by simp) id (by simp [HR.ids,HC.ids,HV.ids]))]
       | win id n i m=>rfl
       | clo g k caps=>rfl
       | row id i k=>rfl
       | rptr id i k r j=>dsimp only;rw [ho id (cu hex (by simp) id (by simp [HR.ids,HC.ids,HV.ids]))]
       | pin id n ad cap=>rfl
theorem a9i {h:HV} {kk:KK} {m:MK} {y:PV} (ho:∀ k ∈ h.ids,o' k = o k):y7 o' kk m y h = y7 o kk m y h:=by
 cases h with
 | ref id n=>simp only [y7];rw [ho id (by simp [HV.ids])]
 | _=>rfl
theorem a0t {t:TypeId} {x i v:Operand} (ho:∀ k ∈ bt e [x],o' k = o k):gt E o' e t x i v = gt E o e t x i v:=by
 unfold gt
 cases E t with
 | none=>rfl
 | some ii =>
  dsimp only
  cases ii.k <;> try rfl
  rename_i kt et
  dsimp only
  cases E kt with
  | none=>rfl
  | some ki =>
   dsimp only
   cases hex:e x with
   | none=>rfl
   | some r =>
    cases r with
    | tup l=>rfl
    | v cc =>
     cases cc with
     | agg l=>rfl
     | one h =>
      dsimp only
      have:=fun kk m y=>a9i (o:=o) (o':=o') (h:=h) (kk:=kk) (m:=m) (y:=y) (fun k hk=>ho k (cu hex (by simp) k hk))
      simp only [this]
theorem a7x {op:Op} (hx:∀ x ∈ op.operands,e' x = e x) (ho:∀ k ∈ bt e op.operands.toList,o' k = o k):hs E o' e' op = hs E o e op:=by
 cases op <;> try rfl
 case mapUpdate t x i v =>
  show gt E o' e' t x i v = gt E o e t x i v
  have h1:gt E o' e' t x i v = gt E o' e t x i v:=by unfold gt;rw [hx x (by simp [Op.operands]),hx i (by simp [Op.operands]),hx v (by simp [Op.operands])]
  rw [h1]
  refine a0t fun k hk=>ho k ?_
  simp only [bt,Op.operands,List.append_nil] at hk ⊢
  exact List.mem_append_left _ hk
 case insert t x i v =>
  show gt E o' e' t x i v = gt E o e t x i v
  have h1:gt E o' e' t x i v = gt E o' e t x i v:=by unfold gt;rw [hx x (by simp [Op.operands]),hx i (by simp [Op.operands]),hx v (by simp [Op.operands])]
  rw [h1]
  refine a0t fun k hk=>ho k ?_
  simp only [bt,Op.operands,List.append_nil] at hk ⊢
  exact List.mem_append_left _ hk
 case store t addr v =>
  show gp E o' e' t addr v = gp E o e t addr v
  have h1:gp E o' e' t addr v = gp E o' e t addr v:=by unfold gp;rw [hx addr (by simp [Op.operands]),hx v (by simp [Op.operands])]
  rw [h1]
  exact a6n (by simpa [Op.operands] using ho)
theorem a0r {id:Nat} {h:HV} (ho:∀ k ∈ h.ids,o' k = o k):oj o' id h = oj o id h:=by
 cases h with
 | p x =>
  cases x with
  | raw v =>
   cases v with
   | slice a n c=>cases n <;> rfl
   | _=>rfl
  | _=>rfl
 | ref id' n=>simp only [oj];rw [ho id' (by simp [HV.ids])]
 | _=>rfl
theorem t8 {id n:Nat} {wb:Bool} {el:TypeId} {y:HV} (hid:o' id = o id) (ho:∀ k ∈ y.ids,o' k = o k):l6 E o' id n wb el y = l6 E o id n wb el y:=by
 simp only [l6]
 rw [hid,a0r ho]
theorem a3u {id:Nat} {h:HV} (ho:∀ k ∈ h.ids,o' k = o k):x4 o' id h = x4 o id h:=by
 simp only [x4]
 rw [a0r ho]
 cases h with
 | ref id' n=>simp only;rw [ho id' (by simp [HV.ids])]
 | _=>rfl
theorem a7t {id n:Nat} {el:TypeId} {y:HV} (hid:o' id = o id) (ho:∀ k ∈ y.ids,o' k = o k):qe E o' id n el y = qe E o id n el y:=by
 simp only [qe]
 rw [hid,a3u ho]
theorem ad7 {id n:Nat} {el:TypeId} {y:HV} (hid:o' id = o id) (ho:∀ k ∈ y.ids,o' k = o k):a1s E o' id n el y = a1s E o id n el y:=by
 simp only [a1s]
 rw [hid,a3u ho]
theorem a9w {el:TypeId} {id n i k:Nat} {y:HV} (hid:o' id = o id):vd E o' el id n i k y = vd E o el id n i k y:=by
 unfold vd
 rw [hid]
theorem acd {h:HV} {z:List Value} {n:Nat} (ho:∀ k ∈ h.ids,o' k = o k):a4q o' z n h = a4q o z n h:=by
 cases h with
 | win id n i m=>simp only [a4q];rw [ho id (by simp [HV.ids])]
 | _=>rfl
theorem aad {id:Nat} {wb:Bool} {el:TypeId} {hy hx:HV} (h1:∀ k ∈ hx.ids,o' k = o k) (h2:∀ k ∈ hy.ids,o' k = o k):ol E o' id wb el hy hx = ol E o id wb el hy hx:=by
 cases hx with
 | win id1 n i k =>
  simp only [ol]
  exact a9w (h1 id1 (by simp [HV.ids]))
 | pin id1 n ad cap =>
  simp only [ol]
  rw [t8 (o:=o) (o':=o') (h1 id1 (by simp [HV.ids])) h2]
 | ref id1 n =>
  simp only [ol]
  rw [t8 (o:=o) (o':=o') (h1 id1 (by simp [HV.ids])) h2,a7t (o:=o) (o':=o') (h1 id1 (by simp [HV.ids])) h2,ad7 (o:=o) (o':=o') (h1 id1 (by simp [HV.ids])) h2]
 | p px =>
  cases px with
  | sl n sz cl f =>
   cases cl with
   | false=>rfl
   | true =>
    simp only [ol]
    cases E el with
    | none=>rfl
    | some ei =>
     dsimp only
     rw [t8 (o:=fun k=>if k = id then some (af.arr false ei.size el n f) else o k) (o':=fun k=>if k = id then some (af.arr false ei.size el n f) else o' k) (by simp) (fun k hk=>by
      try dsimp only
      split
      · rfl
      · exact h2 k hk)]
  | _=>rfl
 | _=>rfl
theorem aa0 {id:Nat} {wb:Bool} {t:TypeId} {x y:Option HR} (hx:∀ r,x = some r → ∀ k ∈ r.ids,o' k = o k) (hy:∀ r,y = some r → ∀ k ∈ r.ids,o' k = o k) :
 zz E o' id wb t x y = zz E o id wb t x y:=by
 unfold zz
 cases E t with
 | none=>rfl
 | some i =>
  dsimp only
  cases i.k <;> try rfl
  rename_i el
  cases x with
  | none=>rfl
  | some rx =>
   cases rx with
   | tup l=>rfl
   | v cx =>
    cases cx with
    | agg l=>rfl
    | one hxv =>
     cases y with
     | none=>rfl
     | some ry =>
      cases ry with
      | tup l=>rfl
      | v cy =>
       cases cy with
       | agg l=>rfl
       | one hyv=>exact aad (hx _ rfl) (hy _ rfl)
theorem afm {op:Op} {id:Nat} {wb:Bool} (hx:∀ x ∈ op.operands,e' x = e x) (ho:∀ k ∈ bt e op.operands.toList,o' k = o k):hap E o' e' id wb op = hap E o e id wb op:=by
 cases op <;> try rfl
 case call c =>
  unfold hap
  dsimp only
  split
  · rename_i hc
    simp only [Op.operands,Call.operands,hc] at hx ho
    have h1:∀ x ∈ c.args.toList,e' x = e x:=fun x hm=>hx x (by simpa using hm)
    have h2:∀ k ∈ bt e c.args.toList,o' k = o k:=fun k hk=>ho k (by simpa using hk)
    generalize c.args.toList = l at h1 h2
    unfold z8
    split
    · rename_i x y t t' _
      split
      · rw [h1 x (by simp),h1 y (by simp)]
        exact aa0 (fun r hr k hk=>h2 k (cu hr (by simp) k hk)) (fun r hr k hk=>h2 k (cu hr (by simp) k hk))
      · rfl
    · rfl
  · rename_i hc
    simp only [Op.operands,Call.operands,hc] at hx ho
    have h1:∀ x ∈ c.args.toList,e' x = e x:=fun x hm=>hx x (by simpa using hm)
    have h2:∀ k ∈ bt e c.args.toList,o' k = o k:=fun k hk=>ho k (by simpa using hk)
    generalize c.args.toList = l at h1 h2
    unfold qf
    split
    · rename_i x t _
      rw [h1 x (by simp)]
      cases E t with
      | none=>rfl
      | some ti =>
       dsimp only
       cases ti.k <;> try rfl
       rename_i el
       dsimp only
       cases E el with
       | none=>rfl
       | some ei =>
        dsimp only
        cases ei.zero with
        | none=>rfl
        | some z =>
         dsimp only
         split
         · cases hex:e x with
           | none=>rfl
           | some r =>
            cases r with
            | tup l=>rfl
            | v cc =>
             cases cc with
             | agg l=>rfl
             | one hv=>exact acd fun k hk=>h2 k (cu hex (by simp) k hk)
         · rfl
    · rfl
  · rfl
theorem a0p {h:HV} (ho:∀ k ∈ h.ids,o' k = o k):wa o' h = wa o h:=by
 cases h with
 | ref id n=>simp only [wa];rw [ho id (by simp [HV.ids])]
 | _=>rfl
end
end Go.Hx
end
