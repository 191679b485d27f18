/- A part of the proof: Hx11. -/
import Derived.Test.YtkkenjdfbojdlaaGreatDoorEx09
set_option linter.all false
section
namespace Go.Hx
open Go.RowKit
section
variable {E:Env} {ex:Bool} {o o':av} {e e':Ev}
theorem ek {x:Operand} {r:HR} (hx:e x = some r):∀ {l:List Operand},x ∈ l → ∀ k ∈ r.ids,k ∈ d6 e l
 | y :: l,hm,k,hk=>by
  rcases List.mem_cons.1 hm with rfl | hm
  · simp only [d6,hx];exact List.mem_append_left _ hk
  simp only [d6];exact List.mem_append_right _ (ek hx hm k hk)
theorem nf:∀ {l:List Operand},(∀ x ∈ l,e' x = e x) → d6 e' l = d6 e l
 | [],_=>rfl
 | x :: l,h=>by
  simp only [d6]
  rw [h x (by simp),nf fun y hy=>h y (by simp [hy])]
theorem w9 {h:HV} (ho:∀ k ∈ h.ids,o' k = o k):tgt o' h = tgt o h:=by
 cases h with
 | p x=>cases x <;> rfl
 | ref id n=>rfl
 | ptr id off=>simp only [tgt];rw [ho id (by simp [HV.ids])]
 | eptr id n i j=>simp only [tgt];rw [ho id (by simp [HV.ids])]
 | win id n i m=>rfl
 | clo g k caps=>rfl
 | row id i k=>rfl
 | rptr id i k r j=>simp only [tgt];rw [ho id (by simp [HV.ids])]
 | pin id n ad cap=>rfl
theorem wn {places:List (Nat × Nat)}:∀ {parts:List (Nat × Operand)} {cells:List HV},(∀ x ∈ parts.map (·.2),e' x = e x) → gp e' places cells parts = gp e places cells parts
 | [],_,_=>rfl
 | (i,x) :: r,cells,h=>by
  have hx:=h x (by simp)
  have ih:∀ cells,gp e' places cells r = gp e places cells r:=fun cells=>wn fun y hy=>h y (by simp at hy ⊢;exact .inr hy)
  simp only [gp,hx,ih]
theorem a3u:∀ {l:List Operand},(∀ x ∈ l,e' x = e x) → wc e' l = wc e l
 | [],_=>rfl
 | x :: l,h=>by
  simp only [wc]
  rw [h x (by simp),a3u fun y hy=>h y (by simp [hy])]
theorem a4b:∀ {l:List Operand},(∀ x ∈ l,e' x = e x) → w5 e' l = w5 e l
 | [],_=>rfl
 | x :: l,h=>by
  simp only [w5]
  rw [h x (by simp),a4b fun y hy=>h y (by simp [hy])]
theorem kb {x:Option Operand} (h:∀ y ∈ x.toList,e' y = e y):gz e' x = gz e x:=by
 cases x with
 | none=>rfl
 | some y=>simp only [gz];rw [h y (by simp)]
theorem a7t {b:Builtin} {args:List Operand} {tys:List TypeId} (h:∀ x ∈ args,e' x = e x):ov E e' b args tys = ov E e b args tys:=by
 unfold ov
 split
 · rename_i x t r
   rw [h x (by simp)]
 · rename_i x y
   rw [h x (by simp),h y (by simp)]
 · rename_i x y
   rw [h x (by simp),h y (by simp)]
 rfl
theorem aks {h:HV} (ho:∀ k ∈ h.ids,o' k = o k):a1b o' h = a1b o h:=by
 cases h with
 | ref id n=>simp only [a1b];rw [ho id (by simp [HV.ids])]
 | win id n i m=>simp only [a1b];rw [ho id (by simp [HV.ids])]
 | row id i k=>simp only [a1b];rw [ho id (by simp [HV.ids])]
 | _=>rfl
theorem ako {h:HV} {n:Nat} {i:Int} (ho:∀ k ∈ h.ids,o' k = o k):a5n o' n i h = a5n o n i h:=by
 cases h with
 | ref id n=>simp only [a5n];rw [ho id (by simp [HV.ids])]
 | win id n i m=>simp only [a5n];rw [ho id (by simp [HV.ids])]
 | row id i k=>simp only [a5n];rw [ho id (by simp [HV.ids])]
 | p x=>cases x <;> rfl
 | _=>rfl
theorem afp {h:HV} {n:Nat} {x y z:Option Int} (ho:∀ k ∈ h.ids,o' k = o k):um o' n x y z h = um o n x y z h:=by
 cases h with
 | ref id n=>simp only [um];rw [ho id (by simp [HV.ids])]
 | win id n i m=>simp only [um];rw [ho id (by simp [HV.ids])]
 | _=>rfl
theorem aa4 {x:Operand} {l:List Operand} {F:av → HV → Option Out} {α:Type} {d:α} {G:Option Out → α} (hF:∀ h:HV,(∀ k ∈ h.ids,o' k = o k) → F o' h = F o h) (hl:x ∈ l) (ho:∀ k ∈ d6 e l,o' k = o k) :
 (match e x with | some (.v (.one h))=>G (F o' h) | _=>d) = (match e x with | some (.v (.one h))=>G (F o h) | _=>d):=by
 cases hex:e x with
 | none=>rfl
 | some r =>
  cases r with
  | tup l=>rfl
  | v cc =>
   cases cc with
   | agg l=>rfl
   | one h =>
    dsimp only
    rw [hF h fun k hk=>ho k (ek hex hl k hk)]
theorem a96 {b:Builtin} {args:List Operand} {tys:List TypeId} (h:∀ x ∈ args,e' x = e x) (ho:∀ k ∈ d6 e args,o' k = o k):qi E o' e' b args tys = qi E o e b args tys:=by
 unfold qi
 split
 · rename_i x t r
   rw [h x (by simp)]
   cases E t with
   | none=>rfl
   | some ti =>
    dsimp only
    cases ti.k <;> try rfl
    exact aa4 (G:=id) (F:=a1b) (fun h hh=>aks hh) (by simp) ho
 rfl
theorem agh {x:Operand} (ho:∀ k ∈ d6 e [x],o' k = o k):nr o' e x = nr o e x:=by
 unfold nr
 cases hex:e x with
 | none=>rfl
 | some r =>
  cases r with
  | tup l=>rfl
  | v cc =>
   cases cc with
   | agg l=>rfl
   | one h =>
    have:=w9 (o:=o) (o':=o') (h:=h) (fun k hk=>ho k (ek hex (by simp) k hk))
    cases h with
    | p x=>cases x <;> rfl
    | ref id n=>rfl
    | ptr id off=>dsimp only;rw [this]
    | eptr id n i j=>dsimp only;rw [this]
    | win id n i m=>rfl
    | clo g k caps=>rfl
    | row id i k=>rfl
    | rptr id i k r j=>dsimp only;rw [this]
    | pin id n ad cap=>rfl
theorem aci {t:TypeId} {x:Operand} (ho:∀ k ∈ d6 e [x],o' k = o k):k7 E o' e t x = k7 E o e t x:=by
 unfold k7
 cases E t with
 | none=>rfl
 | some i =>
  dsimp only
  cases hex:e x with
  | none=>rfl
  | some r =>
   cases r with
   | tup l=>rfl
   | v cc =>
    cases cc with
    | agg l=>rfl
    | one h =>
     dsimp only
     rw [w9 (o:=o) (o':=o') (h:=h) (fun k hk=>ho k (ek hex (by simp) k hk))]
theorem a3n {t:TypeId} {x:Operand} {k:Nat} (ho:∀ k ∈ d6 e [x],o' k = o k):ey E o' e t x k = ey E o e t x k:=by
 unfold ey
 cases E t with
 | none=>rfl
 | some i =>
  dsimp only
  cases i.k <;> try rfl
  rename_i fs
  dsimp only
  cases fs[k]? with
  | none=>rfl
  | some q =>
   obtain ⟨off,ft,bl⟩:=q
   dsimp only
   cases E ft with
   | none=>rfl
   | some fi =>
    dsimp only
    cases hex:e x with
    | none=>rfl
    | some r =>
     cases r with
     | tup l=>rfl
     | v cc =>
      cases cc with
      | agg l=>rfl
      | one h =>
       dsimp only
       rw [w9 (o:=o) (o':=o') (h:=h) (fun k hk=>ho k (ek hex (by simp) k hk))]
theorem a4t {len:Nat} {el:TypeId} {x i:Operand} (ho:∀ k ∈ d6 e [x],o' k = o k):kr E o' e len el x i = kr E o e len el x i:=by
 unfold kr
 cases E el with
 | none=>rfl
 | some ei =>
  dsimp only
  cases hex:e x with
  | none=>rfl
  | some r =>
   cases r with
   | tup l=>rfl
   | v cc =>
    cases cc with
    | agg l=>rfl
    | one h =>
     dsimp only
     rw [w9 (o:=o) (o':=o') (h:=h) (fun k hk=>ho k (ek hex (by simp) k hk))]
theorem a3p {t:TypeId} {x i:Operand} (ho:∀ k ∈ d6 e [x],o' k = o k):fk E o' e t x i = fk E o e t x i:=by
 unfold fk
 cases E t with
 | none=>rfl
 | some ii =>
  dsimp only
  cases ii.k <;> try rfl
  case array len el=>exact a4t ho
  rename_i el
  dsimp only
  cases E el with
  | none=>rfl
  | some ei =>
   dsimp only
   cases hex:e x with
   | none=>rfl
   | some r =>
    cases r with
    | tup l=>rfl
    | v cc =>
     cases cc with
     | agg l=>rfl
     | one h =>
      dsimp only
      have:=fun iv=>ako (o:=o) (o':=o') (h:=h) (n:=ei.size) (i:=iv) (fun k hk=>ho k (ek hex (by simp) k hk))
      simp only [this]
theorem agi {h:HV} {kk:KK} {m:MK} {z:Value} {cm:Bool} (ho:∀ k ∈ h.ids,o' k = o k):a6u o' kk m z cm h = a6u o kk m z cm h:=by
 cases h with
 | ref id n=>simp only [a6u];rw [ho id (by simp [HV.ids])]
 | _=>rfl
theorem a8n {t:TypeId} {x i:Operand} {cm:Bool} (ho:∀ k ∈ d6 e [x],o' k = o k):j2 E o' e t x i cm = j2 E o e t x i cm:=by
 unfold j2
 cases E t with
 | none=>rfl
 | some ii =>
  dsimp only
  cases ii.k <;> try rfl
  rename_i kt et
  dsimp only
  cases ajy E kt et with
  | none=>rfl
  | some q =>
   obtain ⟨kk,z⟩:=q
   dsimp only
   cases hex:e x with
   | none=>rfl
   | some r =>
    cases r with
    | tup l=>rfl
    | v cc =>
     cases cc with
     | agg l=>rfl
     | one h =>
      dsimp only
      have:=fun m=>agi (o:=o) (o':=o') (h:=h) (kk:=kk) (m:=m) (z:=z) (cm:=cm) (fun k hk=>ho k (ek hex (by simp) k hk))
      simp only [this]
theorem atx {op:Op} (hx:∀ x ∈ op.operands,e' x = e x) (ho:∀ k ∈ d6 e op.operands.toList,o' k = o k):hq E ex o' e' op = hq E ex o e op:=by
 cases op <;> try rfl
 case move x=>show Option.map _ (e' x) = Option.map _ (e x);rw [hx x (by simp [Op.operands])]
 case assign x=>show Option.map _ (e' x) = Option.map _ (e x);rw [hx x (by simp [Op.operands])]
 case pick c x y =>
  show xj e' c x y = xj e c x y
  unfold xj
  rw [hx c (by simp [Op.operands]),hx x (by simp [Op.operands]),hx y (by simp [Op.operands])]
 case nilCheck x =>
  show nr o' e' x = nr o e x
  have h1:nr o' e' x = nr o' e x:=by unfold nr;rw [hx x (by simp [Op.operands])]
  rw [h1]
  exact agh (by simpa [Op.operands] using ho)
 case load t x =>
  show k7 E o' e' t x = k7 E o e t x
  have h1:k7 E o' e' t x = k7 E o' e t x:=by unfold k7;rw [hx x (by simp [Op.operands])]
  rw [h1]
  exact aci (by simpa [Op.operands] using ho)
 case fieldAddr t x k =>
  show ey E o' e' t x k = ey E o e t x k
  have h1:ey E o' e' t x k = ey E o' e t x k:=by unfold ey;rw [hx x (by simp [Op.operands])]
  rw [h1]
  exact a3n (by simpa [Op.operands] using ho)
 case field t x k =>
  show u6 E e' t x k = u6 E e t x k
  unfold u6
  rw [hx x (by simp [Op.operands])]
 case indexAddr t x i =>
  show fk E o' e' t x i = fk E o e t x i
  have h1:fk E o' e' t x i = fk E o' e t x i:=by unfold fk kr;rw [hx x (by simp [Op.operands]),hx i (by simp [Op.operands])]
  rw [h1]
  refine a3p fun k hk=>ho k ?_
  simp only [d6,Op.operands,List.append_nil] at hk ⊢
  exact List.mem_append_left _ hk
 case lookup t x i cm =>
  show j2 E o' e' t x i cm = j2 E o e t x i cm
  have h1:j2 E o' e' t x i cm = j2 E o' e t x i cm:=by unfold j2;rw [hx x (by simp [Op.operands]),hx i (by simp [Op.operands])]
  rw [h1]
  refine a8n fun k hk=>ho k ?_
  simp only [d6,Op.operands,List.append_nil] at hk ⊢
  exact List.mem_append_left _ hk
 case index t x i =>
  show ug E e' t x i = ug E e t x i
  unfold ug
  rw [hx x (by simp [Op.operands]),hx i (by simp [Op.operands])]
 case binOp op t x y ty =>
  have h1:a2i E ex e' op t x y = a2i E ex e op t x y:=by
   unfold a2i
   rw [hx x (by simp [Op.operands]),hx y (by simp [Op.operands])]
  have h2:qj E e' op t x y = qj E e op t x y:=by
   unfold qj
   rw [hx x (by simp [Op.operands])]
  simp only [hq]
  rw [h1,h2]
 case unOp op t x =>
  show a8f ex e' op x = a8f ex e op x
  unfold a8f
  rw [hx x (by simp [Op.operands])]
 case convert src dst x =>
  show xy E ex e' src dst x = xy E ex e src dst x
  unfold xy
  rw [hx x (by simp [Op.operands])]
 case extract x i =>
  show oi e' x i = oi e x i
  unfold oi
  rw [hx x (by simp [Op.operands])]
 case slice t x lo hi mx =>
  have e0:=hx x (by simp [Op.operands])
  have e1:=kb (e:=e) (e':=e') (x:=lo) (fun y hy=>hx y (by simp [Op.operands];simp at hy;simp [hy]))
  have e2:=kb (e:=e) (e':=e') (x:=hi) (fun y hy=>hx y (by simp [Op.operands];simp at hy;simp [hy]))
  have e3:=kb (e:=e) (e':=e') (x:=mx) (fun y hy=>hx y (by simp [Op.operands];simp at hy;simp [hy]))
  have h1:jf E e' t x lo hi mx = jf E e t x lo hi mx:=by
   unfold jf
   rw [e0,e1,e2,e3]
  have h2:a2y E o' e' t x lo hi mx = a2y E o e t x lo hi mx:=by
   unfold a2y
   rw [e0,e1,e2,e3]
   cases E t with
   | none=>rfl
   | some ti =>
    dsimp only
    cases ti.k <;> try rfl
    rename_i el
    dsimp only
    cases E el with
    | none=>rfl
    | some ei =>
     dsimp only
     cases gz e lo with
     | none=>rfl
     | some l =>
      cases gz e hi with
      | none=>rfl
      | some hh =>
       cases gz e mx with
       | none=>rfl
       | some m =>
        dsimp only
        exact aa4 (G:=id) (F:=fun o h=>um o ei.size l hh m h) (fun h hh=>afp hh) (l:=(Op.slice t x lo hi mx).operands.toList) (by simp [Op.operands]) ho
  simp only [hq]
  rw [h1,h2]
 case makeFunc fn first caps =>
  show xi e' fn first.toList caps.toList = xi e fn first.toList caps.toList
  unfold xi
  rw [a3u (l:=caps.toList) (fun y hy=>hx y (by simp [Op.operands];simp at hy;exact .inr hy)),a4b (l:=caps.toList) (fun y hy=>hx y (by simp [Op.operands];simp at hy;exact .inr hy))]
  split
  · rfl
  · rename_i f x hf
    rw [hx x (by simp [Op.operands];left;rw [← Array.mem_toList_iff,hf];simp)]
  rfl
 case build t parts =>
  show ua E e' t parts.toList = ua E e t parts.toList
  have hf:∀ places cells,gp e' places cells parts.toList = gp e places cells parts.toList:=fun places cells=>wn fun x hm=>hx x (by simpa [Op.operands] using hm)
  unfold ua
  simp only [hf]
 case call c =>
  simp only [hq]
  cases hc:c.callee with
  | value f=>rfl
  | invoke r m=>rfl
  | builtin b =>
   simp only [Op.operands,Call.operands,hc] at hx ho
   have h1:∀ x ∈ c.args.toList,e' x = e x:=fun x hm=>hx x (by simpa using hm)
   have h2:∀ k ∈ d6 e c.args.toList,o' k = o k:=fun k hk=>ho k (by simpa using hk)
   dsimp only
   rw [a7t h1,a96 h1 h2]
theorem aw5 {op:Op} {id:Nat} (hx:∀ x ∈ op.operands,e' x = e x):ha E e' id op = ha E e id op:=by
 cases op <;> simp only [ha] <;> simp only [Op.operands] at hx
 case box t x=>rw [hx x (by simp)]
 case buildSlice t n parts =>
  have hf:∀ sz cells,a2w e' sz n parts.toList cells = a2w e sz n parts.toList cells:=fun sz cells=>by
   unfold a2w
   exact wn fun x hm=>hx x (by simpa using hm)
  simp only [hf]
 case makeSlice t l c=>rw [hx l (by simp),hx c (by simp)]
theorem ab6 {t:TypeId} {x y:Operand} (ho:∀ k ∈ d6 e [x,y],o' k = o k):jg E o' e t x y = jg E o e t x y:=by
 unfold jg
 cases E t with
 | none=>rfl
 | some i =>
  cases hv:e y with
  | none=>rfl
  | some rv =>
   cases rv with
   | tup l=>rfl
   | v cv =>
    cases hex:e x with
    | none=>rfl
    | some r =>
     cases r with
     | tup l=>rfl
     | v cc =>
      cases cc with
      | agg l=>rfl
      | one h =>
       cases h with
       | p x=>cases x <;> rfl
       | ref id n=>rfl
       | ptr id off=>dsimp only;rw [ho id (ek hex (by simp) id (by simp [HR.ids,HC.ids,HV.ids]))]
       | eptr id n r j=>dsimp only;rw [ho id (ek hex (by simp) id (by simp [HR.ids,HC.ids,HV.ids]))]
       | win id n i m=>rfl
       | clo g k caps=>rfl
       | row id i k=>rfl
       | rptr id i k r j=>dsimp only;rw [ho id (ek hex (by simp) id (by simp [HR.ids,HC.ids,HV.ids]))]
       | pin id n ad cap=>rfl
theorem ad7 {h:HV} {kk:KK} {m:MK} {y:PV} (ho:∀ k ∈ h.ids,o' k = o k):a0u o' kk m y h = a0u o kk m y h:=by
 cases h with
 | ref id n=>simp only [a0u];rw [ho id (by simp [HV.ids])]
 | _=>rfl
theorem agb {t:TypeId} {x i v:Operand} (ho:∀ k ∈ d6 e [x],o' k = o k):pk E o' e t x i v = pk E o e t x i v:=by
 unfold pk
 cases E t with
 | none=>rfl
 | some ii =>
  dsimp only
  cases ii.k <;> try rfl
  rename_i kt et
  dsimp only
  cases E kt with
  | none=>rfl
  | some ki =>
   dsimp only
   cases hex:e x with
   | none=>rfl
   | some r =>
    cases r with
    | tup l=>rfl
    | v cc =>
     cases cc with
     | agg l=>rfl
     | one h =>
      dsimp only
      have:=fun kk m y=>ad7 (o:=o) (o':=o') (h:=h) (kk:=kk) (m:=m) (y:=y) (fun k hk=>ho k (ek hex (by simp) k hk))
      simp only [this]
theorem afi {op:Op} (hx:∀ x ∈ op.operands,e' x = e x) (ho:∀ k ∈ d6 e op.operands.toList,o' k = o k):hs E o' e' op = hs E o e op:=by
 cases op <;> try rfl
 case mapUpdate t x i v =>
  show pk E o' e' t x i v = pk E o e t x i v
  have h1:pk E o' e' t x i v = pk E o' e t x i v:=by unfold pk;rw [hx x (by simp [Op.operands]),hx i (by simp [Op.operands]),hx v (by simp [Op.operands])]
  rw [h1]
  refine agb fun k hk=>ho k ?_
  simp only [d6,Op.operands,List.append_nil] at hk ⊢
  exact List.mem_append_left _ hk
 case store t addr v =>
  show jg E o' e' t addr v = jg E o e t addr v
  have h1:jg E o' e' t addr v = jg E o' e t addr v:=by unfold jg;rw [hx addr (by simp [Op.operands]),hx v (by simp [Op.operands])]
  rw [h1]
  exact ab6 (by simpa [Op.operands] using ho)
theorem a41 {id:Nat} {h:HV} (ho:∀ k ∈ h.ids,o' k = o k):tk o' id h = tk o id h:=by
 cases h with
 | p x =>
  cases x with
  | raw v =>
   cases v with
   | slice a n c=>cases n <;> rfl
   | _=>rfl
  | _=>rfl
 | ref id' n=>simp only [tk];rw [ho id' (by simp [HV.ids])]
 | _=>rfl
theorem wj {id n:Nat} {wb:Bool} {el:TypeId} {y:HV} (hid:o' id = o id) (ho:∀ k ∈ y.ids,o' k = o k):np E o' id n wb el y = np E o id n wb el y:=by
 simp only [np]
 rw [hid,a41 ho]
theorem a7a {id:Nat} {h:HV} (ho:∀ k ∈ h.ids,o' k = o k):a23 o' id h = a23 o id h:=by
 simp only [a23]
 rw [a41 ho]
 cases h with
 | ref id' n=>simp only;rw [ho id' (by simp [HV.ids])]
 | _=>rfl
theorem afd {id n:Nat} {el:TypeId} {y:HV} (hid:o' id = o id) (ho:∀ k ∈ y.ids,o' k = o k):ut E o' id n el y = ut E o id n el y:=by
 simp only [ut]
 rw [hid,a7a ho]
theorem ajr {id n:Nat} {el:TypeId} {y:HV} (hid:o' id = o id) (ho:∀ k ∈ y.ids,o' k = o k):a4l E o' id n el y = a4l E o id n el y:=by
 simp only [a4l]
 rw [hid,a7a ho]
theorem ag9 {el:TypeId} {id n i k:Nat} {y:HV} (hid:o' id = o id):zu E o' el id n i k y = zu E o el id n i k y:=by
 unfold zu
 rw [hid]
theorem akb {h:HV} {z:List Value} {n:Nat} (ho:∀ k ∈ h.ids,o' k = o k):a9a o' z n h = a9a o z n h:=by
 cases h with
 | win id n i m=>simp only [a9a];rw [ho id (by simp [HV.ids])]
 | _=>rfl
theorem afv {id:Nat} {wb:Bool} {el:TypeId} {hy hx:HV} (h1:∀ k ∈ hx.ids,o' k = o k) (h2:∀ k ∈ hy.ids,o' k = o k):tg E o' id wb el hy hx = tg E o id wb el hy hx:=by
 cases hx with
 | win id1 n i k =>
  simp only [tg]
  exact ag9 (h1 id1 (by simp [HV.ids]))
 | pin id1 n ad cap =>
  simp only [tg]
  rw [wj (o:=o) (o':=o') (h1 id1 (by simp [HV.ids])) h2]
 | ref id1 n =>
  simp only [tg]
  rw [wj (o:=o) (o':=o') (h1 id1 (by simp [HV.ids])) h2,afd (o:=o) (o':=o') (h1 id1 (by simp [HV.ids])) h2,ajr (o:=o) (o':=o') (h1 id1 (by simp [HV.ids])) h2]
 | p px =>
  cases px with
  | sl n sz cl f =>
   cases cl with
   | false=>rfl
   | true =>
    simp only [tg]
    cases E el with
    | none=>rfl
    | some ei =>
     dsimp only
     rw [wj (o:=fun k=>if k = id then some (af.arr false ei.size el n f) else o k) (o':=fun k=>if k = id then some (af.arr false ei.size el n f) else o' k) (by simp) (fun k hk=>by
      try dsimp only
      split
      · rfl
      exact h2 k hk)]
  | _=>rfl
 | _=>rfl
theorem afu {id:Nat} {wb:Bool} {t:TypeId} {x y:Option HR} (hx:∀ r,x = some r → ∀ k ∈ r.ids,o' k = o k) (hy:∀ r,y = some r → ∀ k ∈ r.ids,o' k = o k) :
 a38 E o' id wb t x y = a38 E o id wb t x y:=by
 unfold a38
 cases E t with
 | none=>rfl
 | some i =>
  dsimp only
  cases i.k <;> try rfl
  rename_i el
  cases x with
  | none=>rfl
  | some rx =>
   cases rx with
   | tup l=>rfl
   | v cx =>
    cases cx with
    | agg l=>rfl
    | one hxv =>
     cases y with
     | none=>rfl
     | some ry =>
      cases ry with
      | tup l=>rfl
      | v cy =>
       cases cy with
       | agg l=>rfl
       | one hyv=>exact afv (hx _ rfl) (hy _ rfl)
theorem aqw {op:Op} {id:Nat} {wb:Bool} (hx:∀ x ∈ op.operands,e' x = e x) (ho:∀ k ∈ d6 e op.operands.toList,o' k = o k):hap E o' e' id wb op = hap E o e id wb op:=by
 cases op <;> try rfl
 case call c =>
  unfold hap
  dsimp only
  split
  · rename_i hc
    simp only [Op.operands,Call.operands,hc] at hx ho
    have h1:∀ x ∈ c.args.toList,e' x = e x:=fun x hm=>hx x (by simpa using hm)
    have h2:∀ k ∈ d6 e c.args.toList,o' k = o k:=fun k hk=>ho k (by simpa using hk)
    generalize c.args.toList = l at h1 h2
    unfold a2v
    split
    · rename_i x y t t' _
      split
      · rw [h1 x (by simp),h1 y (by simp)]
        exact afu (fun r hr k hk=>h2 k (ek hr (by simp) k hk)) (fun r hr k hk=>h2 k (ek hr (by simp) k hk))
      rfl
    rfl
  · rename_i hc
    simp only [Op.operands,Call.operands,hc] at hx ho
    have h1:∀ x ∈ c.args.toList,e' x = e x:=fun x hm=>hx x (by simpa using hm)
    have h2:∀ k ∈ d6 e c.args.toList,o' k = o k:=fun k hk=>ho k (by simpa using hk)
    generalize c.args.toList = l at h1 h2
    unfold ux
    split
    · rename_i x t _
      rw [h1 x (by simp)]
      cases E t with
      | none=>rfl
      | some ti =>
       dsimp only
       cases ti.k <;> try rfl
       rename_i el
       dsimp only
       cases E el with
       | none=>rfl
       | some ei =>
        dsimp only
        cases ei.zero with
        | none=>rfl
        | some z =>
         dsimp only
         split
         · cases hex:e x with
           | none=>rfl
           | some r =>
            cases r with
            | tup l=>rfl
            | v cc =>
             cases cc with
             | agg l=>rfl
             | one hv=>exact akb fun k hk=>h2 k (ek hex (by simp) k hk)
         rfl
    rfl
  rfl
theorem a42 {h:HV} (ho:∀ k ∈ h.ids,o' k = o k):yp o' h = yp o h:=by
 cases h with
 | ref id n=>simp only [yp];rw [ho id (by simp [HV.ids])]
 | _=>rfl
end
end Go.Hx
end
