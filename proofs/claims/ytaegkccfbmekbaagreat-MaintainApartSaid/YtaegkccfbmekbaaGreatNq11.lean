/- A part of the proof: Hx11. -/
import Derived.Test.YtaegkccfbmekbaaGreatNq10
set_option linter.all false
section
namespace Go.Hx
open Go.RowKit
section
variable {E:Env} {ex:Bool} {o o':b8} {e e':Ev}
theorem eg {x:Operand} {r:HR} (hx:e x = some r):∀ {l:List Operand},x ∈ l → ∀ k ∈ r.ids,k ∈ d7 e l
 | y :: l,hm,k,hk=>by
  rcases List.mem_cons.1 hm with rfl | hm
  · simp only [d7,hx];exact List.mem_append_left _ hk
  · simp only [d7];exact List.mem_append_right _ (eg hx hm k hk)
theorem my:∀ {l:List Operand},(∀ x ∈ l,e' x = e x) → d7 e' l = d7 e l
 | [],_=>rfl
 | x :: l,h=>by
  simp only [d7]
  rw [h x (by simp),my fun y hy=>h y (by simp [hy])]
theorem ur {h:HV} (ho:∀ k ∈ h.ids,o' k = o k):tgt o' h = tgt o h:=by
 cases h with
 | p x=>cases x <;> rfl
 | ref id n=>rfl
 | ptr id off=>simp only [tgt];rw [ho id (by simp [HV.ids])]
 | eptr id n i j=>simp only [tgt];rw [ho id (by simp [HV.ids])]
 | win id n i m=>rfl
 | clo g k caps=>rfl
 | row id i k=>rfl
 | rptr id i k r j=>simp only [tgt];rw [ho id (by simp [HV.ids])]
 | pin id n ad cap=>rfl
theorem vu {places:List (Nat × Nat)}:∀ {parts:List (Nat × Operand)} {cells:List HV},(∀ x ∈ parts.map (·.2),e' x = e x) → fy e' places cells parts = fy e places cells parts
 | [],_,_=>rfl
 | (i,x) :: r,cells,h=>by
  have hx:=h x (by simp)
  have ih:∀ cells,fy e' places cells r = fy e places cells r:=fun cells=>vu fun y hy=>h y (by simp at hy ⊢;exact .inr hy)
  simp only [fy,hx,ih]
theorem a2b:∀ {l:List Operand},(∀ x ∈ l,e' x = e x) → uz e' l = uz e l
 | [],_=>rfl
 | x :: l,h=>by
  simp only [uz]
  rw [h x (by simp),a2b fun y hy=>h y (by simp [hy])]
theorem a1y:∀ {l:List Operand},(∀ x ∈ l,e' x = e x) → un e' l = un e l
 | [],_=>rfl
 | x :: l,h=>by
  simp only [un]
  rw [h x (by simp),a1y fun y hy=>h y (by simp [hy])]
theorem jn {x:Option Operand} (h:∀ y ∈ x.toList,e' y = e y):gh e' x = gh e x:=by
 cases x with
 | none=>rfl
 | some y=>simp only [gh];rw [h y (by simp)]
theorem a4w {b:Builtin} {args:List Operand} {tys:List TypeId} (h:∀ x ∈ args,e' x = e x):nx E e' b args tys = nx E e b args tys:=by
 unfold nx
 split
 · rename_i x t r
   rw [h x (by simp)]
 · rename_i x y
   rw [h x (by simp),h y (by simp)]
 · rename_i x y
   rw [h x (by simp),h y (by simp)]
 · rfl
theorem afm {h:HV} (ho:∀ k ∈ h.ids,o' k = o k):zk o' h = zk o h:=by
 cases h with
 | ref id n=>simp only [zk];rw [ho id (by simp [HV.ids])]
 | win id n i m=>simp only [zk];rw [ho id (by simp [HV.ids])]
 | row id i k=>simp only [zk];rw [ho id (by simp [HV.ids])]
 | _=>rfl
theorem afx {h:HV} {n:Nat} {i:Int} (ho:∀ k ∈ h.ids,o' k = o k):a33 o' n i h = a33 o n i h:=by
 cases h with
 | ref id n=>simp only [a33];rw [ho id (by simp [HV.ids])]
 | win id n i m=>simp only [a33];rw [ho id (by simp [HV.ids])]
 | row id i k=>simp only [a33];rw [ho id (by simp [HV.ids])]
 | p x=>cases x <;> rfl
 | _=>rfl
theorem a9f {h:HV} {n:Nat} {x y z:Option Int} (ho:∀ k ∈ h.ids,o' k = o k):te o' n x y z h = te o n x y z h:=by
 cases h with
 | ref id n=>simp only [te];rw [ho id (by simp [HV.ids])]
 | win id n i m=>simp only [te];rw [ho id (by simp [HV.ids])]
 | _=>rfl
theorem a8h {x:Operand} {l:List Operand} {F:b8 → HV → Option Out} {α:Type} {d:α} {G:Option Out → α} (hF:∀ h:HV,(∀ k ∈ h.ids,o' k = o k) → F o' h = F o h) (hl:x ∈ l) (ho:∀ k ∈ d7 e l,o' k = o k) :
 (match e x with | some (.v (.one h))=>G (F o' h) | _=>d) = (match e x with | some (.v (.one h))=>G (F o h) | _=>d):=by
 cases hex:e x with
 | none=>rfl
 | some r =>
  cases r with
  | tup l=>rfl
  | v cc =>
   cases cc with
   | agg l=>rfl
   | one h =>
    dsimp only
    rw [hF h fun k hk=>ho k (eg hex hl k hk)]
theorem a69 {b:Builtin} {args:List Operand} {tys:List TypeId} (h:∀ x ∈ args,e' x = e x) (ho:∀ k ∈ d7 e args,o' k = o k):po E o' e' b args tys = po E o e b args tys:=by
 unfold po
 split
 · rename_i x t r
   rw [h x (by simp)]
   cases E t with
   | none=>rfl
   | some ti =>
    dsimp only
    cases ti.k <;> try rfl
    exact a8h (G:=id) (F:=zk) (fun h hh=>afm hh) (by simp) ho
 · rfl
theorem ad5 {x:Operand} (ho:∀ k ∈ d7 e [x],o' k = o k):n8 o' e x = n8 o e x:=by
 unfold n8
 cases hex:e x with
 | none=>rfl
 | some r =>
  cases r with
  | tup l=>rfl
  | v cc =>
   cases cc with
   | agg l=>rfl
   | one h =>
    have:=ur (o:=o) (o':=o') (h:=h) (fun k hk=>ho k (eg hex (by simp) k hk))
    cases h with
    | p x=>cases x <;> rfl
    | ref id n=>rfl
    | ptr id off=>dsimp only;rw [this]
    | eptr id n i j=>dsimp only;rw [this]
    | win id n i m=>rfl
    | clo g k caps=>rfl
    | row id i k=>rfl
    | rptr id i k r j=>dsimp only;rw [this]
    | pin id n ad cap=>rfl
theorem aa5 {t:TypeId} {x:Operand} (ho:∀ k ∈ d7 e [x],o' k = o k):jw E o' e t x = jw E o e t x:=by
 unfold jw
 cases E t with
 | none=>rfl
 | some i =>
  dsimp only
  cases hex:e x with
  | none=>rfl
  | some r =>
   cases r with
   | tup l=>rfl
   | v cc =>
    cases cc with
    | agg l=>rfl
    | one h =>
     dsimp only
     rw [ur (o:=o) (o':=o') (h:=h) (fun k hk=>ho k (eg hex (by simp) k hk))]
theorem a1s {t:TypeId} {x:Operand} {k:Nat} (ho:∀ k ∈ d7 e [x],o' k = o k):f4 E o' e t x k = f4 E o e t x k:=by
 unfold f4
 cases E t with
 | none=>rfl
 | some i =>
  dsimp only
  cases i.k <;> try rfl
  rename_i fs
  dsimp only
  cases fs[k]? with
  | none=>rfl
  | some q =>
   obtain ⟨off,ft,bl⟩:=q
   dsimp only
   cases E ft with
   | none=>rfl
   | some fi =>
    dsimp only
    cases hex:e x with
    | none=>rfl
    | some r =>
     cases r with
     | tup l=>rfl
     | v cc =>
      cases cc with
      | agg l=>rfl
      | one h =>
       dsimp only
       rw [ur (o:=o) (o':=o') (h:=h) (fun k hk=>ho k (eg hex (by simp) k hk))]
theorem a2o {len:Nat} {el:TypeId} {x i:Operand} (ho:∀ k ∈ d7 e [x],o' k = o k):kd E o' e len el x i = kd E o e len el x i:=by
 unfold kd
 cases E el with
 | none=>rfl
 | some ei =>
  dsimp only
  cases hex:e x with
  | none=>rfl
  | some r =>
   cases r with
   | tup l=>rfl
   | v cc =>
    cases cc with
    | agg l=>rfl
    | one h =>
     dsimp only
     rw [ur (o:=o) (o':=o') (h:=h) (fun k hk=>ho k (eg hex (by simp) k hk))]
theorem a1t {t:TypeId} {x i:Operand} (ho:∀ k ∈ d7 e [x],o' k = o k):fe E o' e t x i = fe E o e t x i:=by
 unfold fe
 cases E t with
 | none=>rfl
 | some ii =>
  dsimp only
  cases ii.k <;> try rfl
  case array len el=>exact a2o ho
  rename_i el
  dsimp only
  cases E el with
  | none=>rfl
  | some ei =>
   dsimp only
   cases hex:e x with
   | none=>rfl
   | some r =>
    cases r with
    | tup l=>rfl
    | v cc =>
     cases cc with
     | agg l=>rfl
     | one h =>
      dsimp only
      have:=fun iv=>afx (o:=o) (o':=o') (h:=h) (n:=ei.size) (i:=iv) (fun k hk=>ho k (eg hex (by simp) k hk))
      simp only [this]
theorem ad3 {h:HV} {kk:KK} {m:MK} {z:Value} {cm:Bool} (ho:∀ k ∈ h.ids,o' k = o k):a4i o' kk m z cm h = a4i o kk m z cm h:=by
 cases h with
 | ref id n=>simp only [a4i];rw [ho id (by simp [HV.ids])]
 | p y=>cases y <;> rfl
 | _=>rfl
theorem a73 {t:TypeId} {x i:Operand} {cm:Bool} (ho:∀ k ∈ d7 e [x],o' k = o k):iu E o' e t x i cm = iu E o e t x i cm:=by
 unfold iu
 cases E t with
 | none=>rfl
 | some ii =>
  dsimp only
  cases ii.k <;> try rfl
  rename_i kt et
  dsimp only
  cases a91 E kt et with
  | none=>rfl
  | some q =>
   obtain ⟨kk,z⟩:=q
   dsimp only
   cases hex:e x with
   | none=>rfl
   | some r =>
    cases r with
    | tup l=>rfl
    | v cc =>
     cases cc with
     | agg l=>rfl
     | one h =>
      dsimp only
      have:=fun m=>ad3 (o:=o) (o':=o') (h:=h) (kk:=kk) (m:=m) (z:=z) (cm:=cm) (fun k hk=>ho k (eg hex (by simp) k hk))
      simp only [this]
theorem a8n {h:HV} {op:BinOp} (ho:∀ k ∈ h.ids,o' k = o k):wj o' op h = wj o op h:=by
 cases h with
 | ptr id n=>simp only [wj];rw [ho id (by simp [HV.ids])]
 | p x=>cases x with
  | raw v=>cases v <;> rfl
  | _=>rfl
 | _=>rfl
theorem a6z {op:BinOp} {t:TypeId} {x y:Operand} (ho:∀ k ∈ d7 e [x],o' k = o k):ip E o' e op t x y = ip E o e op t x y:=by
 unfold ip
 split <;> try rfl
 cases E t with
 | none=>rfl
 | some ii =>
  dsimp only
  cases ii.k <;> try rfl
  dsimp only
  cases hex:e x with
  | none=>rfl
  | some r =>
   cases r with
   | tup l=>rfl
   | v cc =>
    cases cc with
    | agg l=>rfl
    | one h=>exact a8n (fun k hk=>ho k (eg hex (by simp) k hk))
theorem am0 {op:Op} (hx:∀ x ∈ op.operands,e' x = e x) (ho:∀ k ∈ d7 e op.operands.toList,o' k = o k):hq E ex o' e' op = hq E ex o e op:=by
 cases op <;> try rfl
 case move x=>show Option.map _ (e' x) = Option.map _ (e x);rw [hx x (by simp [Op.operands])]
 case assign x=>show Option.map _ (e' x) = Option.map _ (e x);rw [hx x (by simp [Op.operands])]
 case pick c x y =>
  show wh e' c x y = wh e c x y
  unfold wh
  rw [hx c (by simp [Op.operands]),hx x (by simp [Op.operands]),hx y (by simp [Op.operands])]
 case nilCheck x =>
  show n8 o' e' x = n8 o e x
  have h1:n8 o' e' x = n8 o' e x:=by unfold n8;rw [hx x (by simp [Op.operands])]
  rw [h1]
  exact ad5 (by simpa [Op.operands] using ho)
 case load t x =>
  show jw E o' e' t x = jw E o e t x
  have h1:jw E o' e' t x = jw E o' e t x:=by unfold jw;rw [hx x (by simp [Op.operands])]
  rw [h1]
  exact aa5 (by simpa [Op.operands] using ho)
 case fieldAddr t x k =>
  show f4 E o' e' t x k = f4 E o e t x k
  have h1:f4 E o' e' t x k = f4 E o' e t x k:=by unfold f4;rw [hx x (by simp [Op.operands])]
  rw [h1]
  exact a1s (by simpa [Op.operands] using ho)
 case field t x k =>
  show ss E e' t x k = ss E e t x k
  unfold ss
  rw [hx x (by simp [Op.operands])]
 case indexAddr t x i =>
  show fe E o' e' t x i = fe E o e t x i
  have h1:fe E o' e' t x i = fe E o' e t x i:=by unfold fe kd;rw [hx x (by simp [Op.operands]),hx i (by simp [Op.operands])]
  rw [h1]
  refine a1t fun k hk=>ho k ?_
  simp only [d7,Op.operands,List.append_nil] at hk ⊢
  exact List.mem_append_left _ hk
 case lookup t x i cm =>
  show iu E o' e' t x i cm = iu E o e t x i cm
  have h1:iu E o' e' t x i cm = iu E o' e t x i cm:=by unfold iu;rw [hx x (by simp [Op.operands]),hx i (by simp [Op.operands])]
  rw [h1]
  refine a73 fun k hk=>ho k ?_
  simp only [d7,Op.operands,List.append_nil] at hk ⊢
  exact List.mem_append_left _ hk
 case index t x i =>
  show su E e' t x i = su E e t x i
  unfold su
  rw [hx x (by simp [Op.operands]),hx i (by simp [Op.operands])]
 case binOp op t x y ty =>
  have h1:a1h E ex e' op t x y = a1h E ex e op t x y:=by
   unfold a1h
   rw [hx x (by simp [Op.operands]),hx y (by simp [Op.operands])]
  have h2:pi E e' op t x y = pi E e op t x y:=by
   unfold pi
   rw [hx x (by simp [Op.operands])]
  have h3:ip E o' e' op t x y = ip E o e op t x y:=by
   have h1:ip E o' e' op t x y = ip E o' e op t x y:=by unfold ip;rw [hx x (by simp [Op.operands])]
   rw [h1]
   refine a6z fun k hk=>ho k ?_
   simp only [d7,Op.operands,List.append_nil] at hk ⊢
   exact List.mem_append_left _ hk
  simp only [hq]
  rw [h1,h2,h3]
 case unOp op t x =>
  show a6n ex e' op x = a6n ex e op x
  unfold a6n
  rw [hx x (by simp [Op.operands])]
 case convert src dst x =>
  show xi E ex e' src dst x = xi E ex e src dst x
  unfold xi
  rw [hx x (by simp [Op.operands])]
 case extract x i =>
  show nk e' x i = nk e x i
  unfold nk
  rw [hx x (by simp [Op.operands])]
 case slice t x lo hi mx =>
  have e0:=hx x (by simp [Op.operands])
  have e1:=jn (e:=e) (e':=e') (x:=lo) (fun y hy=>hx y (by simp [Op.operands];simp at hy;simp [hy]))
  have e2:=jn (e:=e) (e':=e') (x:=hi) (fun y hy=>hx y (by simp [Op.operands];simp at hy;simp [hy]))
  have e3:=jn (e:=e) (e':=e') (x:=mx) (fun y hy=>hx y (by simp [Op.operands];simp at hy;simp [hy]))
  have h1:j4 E e' t x lo hi mx = j4 E e t x lo hi mx:=by
   unfold j4
   rw [e0,e1,e2,e3]
  have h2:a10 E o' e' t x lo hi mx = a10 E o e t x lo hi mx:=by
   unfold a10
   rw [e0,e1,e2,e3]
   cases E t with
   | none=>rfl
   | some ti =>
    dsimp only
    cases ti.k <;> try rfl
    rename_i el
    dsimp only
    cases E el with
    | none=>rfl
    | some ei =>
     dsimp only
     cases gh e lo with
     | none=>rfl
     | some l =>
      cases gh e hi with
      | none=>rfl
      | some hh =>
       cases gh e mx with
       | none=>rfl
       | some m =>
        dsimp only
        exact a8h (G:=id) (F:=fun o h=>te o ei.size l hh m h) (fun h hh=>a9f hh) (l:=(Op.slice t x lo hi mx).operands.toList) (by simp [Op.operands]) ho
  simp only [hq]
  rw [h1,h2]
 case makeFunc fn first caps =>
  show w5 e' fn first.toList caps.toList = w5 e fn first.toList caps.toList
  unfold w5
  rw [a2b (l:=caps.toList) (fun y hy=>hx y (by simp [Op.operands];simp at hy;exact .inr hy)),a1y (l:=caps.toList) (fun y hy=>hx y (by simp [Op.operands];simp at hy;exact .inr hy))]
  split
  · rfl
  · rename_i f x hf
    rw [hx x (by simp [Op.operands];left;rw [← Array.mem_toList_iff,hf];simp)]
  · rfl
 case build t parts =>
  show so E e' t parts.toList = so E e t parts.toList
  have hf:∀ places cells,fy e' places cells parts.toList = fy e places cells parts.toList:=fun places cells=>vu fun x hm=>hx x (by simpa [Op.operands] using hm)
  unfold so
  simp only [hf]
 case call c =>
  simp only [hq]
  cases hc:c.callee with
  | value f=>rfl
  | invoke r m=>rfl
  | builtin b =>
   simp only [Op.operands,Call.operands,hc] at hx ho
   have h1:∀ x ∈ c.args.toList,e' x = e x:=fun x hm=>hx x (by simpa using hm)
   have h2:∀ k ∈ d7 e c.args.toList,o' k = o k:=fun k hk=>ho k (by simpa using hk)
   dsimp only
   rw [a4w h1,a69 h1 h2]
theorem am1 {op:Op} {id:Nat} (hx:∀ x ∈ op.operands,e' x = e x):ha E e' id op = ha E e id op:=by
 cases op <;> simp only [ha] <;> simp only [Op.operands] at hx
 case box t x=>rw [hx x (by simp)]
 case buildSlice t n parts =>
  have hf:∀ sz cells,a1n e' sz n parts.toList cells = a1n e sz n parts.toList cells:=fun sz cells=>by
   unfold a1n
   exact vu fun x hm=>hx x (by simpa using hm)
  simp only [hf]
 case makeSlice t l c=>rw [hx l (by simp),hx c (by simp)]
theorem a8k {t:TypeId} {x y:Operand} (ho:∀ k ∈ d7 e [x,y],o' k = o k):j3 E o' e t x y = j3 E o e t x y:=by
 unfold j3
 cases E t with
 | none=>rfl
 | some i =>
  cases hv:e y with
  | none=>rfl
  | some rv =>
   cases rv with
   | tup l=>rfl
   | v cv =>
    cases hex:e x with
    | none=>rfl
    | some r =>
     cases r with
     | tup l=>rfl
     | v cc =>
      cases cc with
      | agg l=>rfl
      | one h =>
       cases h with
       | p x=>cases x <;> rfl
       | ref id n=>rfl
       | ptr id off=>dsimp only;rw [ho id (eg hex (by simp) id (by simp [HR.ids,HC.ids,HV.ids]))]
       | eptr id n r j=>dsimp only;rw [ho id (eg hex (by simp) id (by simp [HR.ids,HC.ids,HV.ids]))]
       | win id n i m=>rfl
       | clo g k caps=>rfl
       | row id i k=>rfl
       | rptr id i k r j=>dsimp only;rw [ho id (eg hex (by simp) id (by simp [HR.ids,HC.ids,HV.ids]))]
       | pin id n ad cap=>rfl
theorem abu {h:HV} {kk:KK} {m:MK} {y:PV} (ho:∀ k ∈ h.ids,o' k = o k):a0c o' kk m y h = a0c o kk m y h:=by
 cases h with
 | ref id n=>simp only [a0c];rw [ho id (by simp [HV.ids])]
 | _=>rfl
theorem a28 {t:TypeId} {x i v:Operand} (ho:∀ k ∈ d7 e [x],o' k = o k):j8 E o' e t x i v = j8 E o e t x i v:=by
 unfold j8
 cases E t with
 | none=>rfl
 | some ii =>
  dsimp only
  cases ii.k <;> try rfl
  rename_i kt et
  dsimp only
  cases E kt with
  | none=>rfl
  | some ki =>
   dsimp only
   cases hex:e x with
   | none=>rfl
   | some r =>
    cases r with
    | tup l=>rfl
    | v cc =>
     cases cc with
     | agg l=>rfl
     | one h =>
      dsimp only
      have:=fun kk m y=>abu (o:=o) (o':=o') (h:=h) (kk:=kk) (m:=m) (y:=y) (fun k hk=>ho k (eg hex (by simp) k hk))
      simp only [this]
theorem abn {op:Op} (hx:∀ x ∈ op.operands,e' x = e x) (ho:∀ k ∈ d7 e op.operands.toList,o' k = o k):hs E o' e' op = hs E o e op:=by
 cases op <;> try rfl
 case mapUpdate t x i v =>
  show j8 E o' e' t x i v = j8 E o e t x i v
  have h1:j8 E o' e' t x i v = j8 E o' e t x i v:=by unfold j8;rw [hx x (by simp [Op.operands]),hx i (by simp [Op.operands]),hx v (by simp [Op.operands])]
  rw [h1]
  refine a28 fun k hk=>ho k ?_
  simp only [d7,Op.operands,List.append_nil] at hk ⊢
  exact List.mem_append_left _ hk
 case insert t x i v =>
  show j8 E o' e' t x i v = j8 E o e t x i v
  have h1:j8 E o' e' t x i v = j8 E o' e t x i v:=by unfold j8;rw [hx x (by simp [Op.operands]),hx i (by simp [Op.operands]),hx v (by simp [Op.operands])]
  rw [h1]
  refine a28 fun k hk=>ho k ?_
  simp only [d7,Op.operands,List.append_nil] at hk ⊢
  exact List.mem_append_left _ hk
 case store t addr v =>
  show j3 E o' e' t addr v = j3 E o e t addr v
  have h1:j3 E o' e' t addr v = j3 E o' e t addr v:=by unfold j3;rw [hx addr (by simp [Op.operands]),hx v (by simp [Op.operands])]
  rw [h1]
  exact a8k (by simpa [Op.operands] using ho)
theorem a2c {id:Nat} {h:HV} (ho:∀ k ∈ h.ids,o' k = o k):sm o' id h = sm o id h:=by
 cases h with
 | p x =>
  cases x with
  | raw v =>
   cases v with
   | slice a n c=>cases n <;> rfl
   | _=>rfl
  | _=>rfl
 | ref id' n=>simp only [sm];rw [ho id' (by simp [HV.ids])]
 | _=>rfl
theorem vn {id n:Nat} {wb:Bool} {el:TypeId} {y:HV} (hid:o' id = o id) (ho:∀ k ∈ y.ids,o' k = o k):mz E o' id n wb el y = mz E o id n wb el y:=by
 simp only [mz]
 rw [hid,a2c ho]
theorem a5q {id:Nat} {h:HV} (ho:∀ k ∈ h.ids,o' k = o k):zh o' id h = zh o id h:=by
 simp only [zh]
 rw [a2c ho]
 cases h with
 | ref id' n=>simp only;rw [ho id' (by simp [HV.ids])]
 | _=>rfl
theorem aaz {id n:Nat} {el:TypeId} {y:HV} (hid:o' id = o id) (ho:∀ k ∈ y.ids,o' k = o k):th E o' id n el y = th E o id n el y:=by
 simp only [th]
 rw [hid,a5q ho]
theorem afs {id n:Nat} {el:TypeId} {y:HV} (hid:o' id = o id) (ho:∀ k ∈ y.ids,o' k = o k):a3k E o' id n el y = a3k E o id n el y:=by
 simp only [a3k]
 rw [hid,a5q ho]
theorem acj {el:TypeId} {id n i k:Nat} {y:HV} (hid:o' id = o id):yn E o' el id n i k y = yn E o el id n i k y:=by
 unfold yn
 rw [hid]
theorem afp {h:HV} {z:List Value} {n:Nat} (ho:∀ k ∈ h.ids,o' k = o k):a74 o' z n h = a74 o z n h:=by
 cases h with
 | win id n i m=>simp only [a74];rw [ho id (by simp [HV.ids])]
 | _=>rfl
theorem ad0 {id:Nat} {wb:Bool} {el:TypeId} {hy hx:HV} (h1:∀ k ∈ hx.ids,o' k = o k) (h2:∀ k ∈ hy.ids,o' k = o k):sa E o' id wb el hy hx = sa E o id wb el hy hx:=by
 cases hx with
 | win id1 n i k =>
  simp only [sa]
  exact acj (h1 id1 (by simp [HV.ids]))
 | pin id1 n ad cap =>
  simp only [sa]
  rw [vn (o:=o) (o':=o') (h1 id1 (by simp [HV.ids])) h2]
 | ref id1 n =>
  simp only [sa]
  rw [vn (o:=o) (o':=o') (h1 id1 (by simp [HV.ids])) h2,aaz (o:=o) (o':=o') (h1 id1 (by simp [HV.ids])) h2,afs (o:=o) (o':=o') (h1 id1 (by simp [HV.ids])) h2]
 | p px =>
  cases px with
  | sl n sz cl f =>
   cases cl with
   | false=>rfl
   | true =>
    simp only [sa]
    cases E el with
    | none=>rfl
    | some ei =>
     dsimp only
     rw [vn (o:=fun k=>if k = id then some (ag.arr false ei.size el n f) else o k) (o':=fun k=>if k = id then some (ag.arr false ei.size el n f) else o' k) (by simp) (fun k hk=>by
      try dsimp only
      split
      · rfl
      · exact h2 k hk)]
  | _=>rfl
 | _=>rfl
theorem acx {id:Nat} {wb:Bool} {t:TypeId} {x y:Option HR} (hx:∀ r,x = some r → ∀ k ∈ r.ids,o' k = o k) (hy:∀ r,y = some r → ∀ k ∈ r.ids,o' k = o k) :
 a1g E o' id wb t x y = a1g E o id wb t x y:=by
 unfold a1g
 cases E t with
 | none=>rfl
 | some i =>
  dsimp only
  cases i.k <;> try rfl
  rename_i el
  cases x with
  | none=>rfl
  | some rx =>
   cases rx with
   | tup l=>rfl
   | v cx =>
    cases cx with
    | agg l=>rfl
    | one hxv =>
     cases y with
     | none=>rfl
     | some ry =>
      cases ry with
      | tup l=>rfl
      | v cy =>
       cases cy with
       | agg l=>rfl
       | one hyv=>exact ad0 (hx _ rfl) (hy _ rfl)
theorem aiw {op:Op} {id:Nat} {wb:Bool} (hx:∀ x ∈ op.operands,e' x = e x) (ho:∀ k ∈ d7 e op.operands.toList,o' k = o k):hap E o' e' id wb op = hap E o e id wb op:=by
 cases op <;> try rfl
 case call c =>
  unfold hap
  dsimp only
  split
  · rename_i hc
    simp only [Op.operands,Call.operands,hc] at hx ho
    have h1:∀ x ∈ c.args.toList,e' x = e x:=fun x hm=>hx x (by simpa using hm)
    have h2:∀ k ∈ d7 e c.args.toList,o' k = o k:=fun k hk=>ho k (by simpa using hk)
    generalize c.args.toList = l at h1 h2
    unfold a1f
    split
    · rename_i x y t t' _
      split
      · rw [h1 x (by simp),h1 y (by simp)]
        exact acx (fun r hr k hk=>h2 k (eg hr (by simp) k hk)) (fun r hr k hk=>h2 k (eg hr (by simp) k hk))
      · rfl
    · rfl
  · rename_i hc
    simp only [Op.operands,Call.operands,hc] at hx ho
    have h1:∀ x ∈ c.args.toList,e' x = e x:=fun x hm=>hx x (by simpa using hm)
    have h2:∀ k ∈ d7 e c.args.toList,o' k = o k:=fun k hk=>ho k (by simpa using hk)
    generalize c.args.toList = l at h1 h2
    unfold tk
    split
    · rename_i x t _
      rw [h1 x (by simp)]
      cases E t with
      | none=>rfl
      | some ti =>
       dsimp only
       cases ti.k <;> try rfl
       rename_i el
       dsimp only
       cases E el with
       | none=>rfl
       | some ei =>
        dsimp only
        cases ei.zero with
        | none=>rfl
        | some z =>
         dsimp only
         split
         · cases hex:e x with
           | none=>rfl
           | some r =>
            cases r with
            | tup l=>rfl
            | v cc =>
             cases cc with
             | agg l=>rfl
             | one hv=>exact afp fun k hk=>h2 k (eg hex (by simp) k hk)
         · rfl
    · rfl
  · rfl
theorem a23 {h:HV} (ho:∀ k ∈ h.ids,o' k = o k):xw o' h = xw o h:=by
 cases h with
 | ref id n=>simp only [xw];rw [ho id (by simp [HV.ids])]
 | _=>rfl
end
end Go.Hx
end
