/- A part of the proof: Hx11. -/
import Derived.Test.YtaegkccfbmekbaaGreatNx10
set_option linter.all false
section
namespace Go.Hx
open Go.RowKit
section
variable {E:Env} {ex:Bool} {o o':bd} {e e':Ev}
theorem dz {x:Operand} {r:HR} (hx:e x = some r):∀ {l:List Operand},x ∈ l → ∀ k ∈ r.ids,k ∈ d5 e l
 | y :: l,hm,k,hk=>by
  rcases List.mem_cons.1 hm with rfl | hm
  · simp only [d5,hx];exact List.mem_append_left _ hk
  · simp only [d5];exact List.mem_append_right _ (dz hx hm k hk)
theorem n4:∀ {l:List Operand},(∀ x ∈ l,e' x = e x) → d5 e' l = d5 e l
 | [],_=>rfl
 | x :: l,h=>by
  simp only [d5]
  rw [h x (by simp),n4 fun y hy=>h y (by simp [hy])]
theorem vf {h:HV} (ho:∀ k ∈ h.ids,o' k = o k):tgt o' h = tgt o h:=by
 cases h with
 | p x=>cases x <;> rfl
 | ref id n=>rfl
 | ptr id off=>simp only [tgt];rw [ho id (by simp [HV.ids])]
 | eptr id n i j=>simp only [tgt];rw [ho id (by simp [HV.ids])]
 | win id n i m=>rfl
 | clo g k caps=>rfl
 | row id i k=>rfl
 | rptr id i k r j=>simp only [tgt];rw [ho id (by simp [HV.ids])]
 | pin id n ad cap=>rfl
theorem w7 {places:List (Nat × Nat)}:∀ {parts:List (Nat × Operand)} {cells:List HV},(∀ x ∈ parts.map (·.2),e' x = e x) → gj e' places cells parts = gj e places cells parts
 | [],_,_=>rfl
 | (i,x) :: r,cells,h=>by
  have hx:=h x (by simp)
  have ih:∀ cells,gj e' places cells r = gj e places cells r:=fun cells=>w7 fun y hy=>h y (by simp at hy ⊢;exact .inr hy)
  simp only [gj,hx,ih]
theorem a1u:∀ {l:List Operand},(∀ x ∈ l,e' x = e x) → uv e' l = uv e l
 | [],_=>rfl
 | x :: l,h=>by
  simp only [uv]
  rw [h x (by simp),a1u fun y hy=>h y (by simp [hy])]
theorem a2e:∀ {l:List Operand},(∀ x ∈ l,e' x = e x) → vj e' l = vj e l
 | [],_=>rfl
 | x :: l,h=>by
  simp only [vj]
  rw [h x (by simp),a2e fun y hy=>h y (by simp [hy])]
theorem jz {x:Option Operand} (h:∀ y ∈ x.toList,e' y = e y):go e' x = go e x:=by
 cases x with
 | none=>rfl
 | some y=>simp only [go];rw [h y (by simp)]
theorem a4x {b:Builtin} {args:List Operand} {tys:List TypeId} (h:∀ x ∈ args,e' x = e x):o8 E e' b args tys = o8 E e b args tys:=by
 unfold o8
 split
 · rename_i x t r
   rw [h x (by simp)]
 · rename_i x y
   rw [h x (by simp),h y (by simp)]
 · rename_i x y
   rw [h x (by simp),h y (by simp)]
 · rfl
theorem afe {h:HV} (ho:∀ k ∈ h.ids,o' k = o k):a0s o' h = a0s o h:=by
 cases h with
 | ref id n=>simp only [a0s];rw [ho id (by simp [HV.ids])]
 | win id n i m=>simp only [a0s];rw [ho id (by simp [HV.ids])]
 | row id i k=>simp only [a0s];rw [ho id (by simp [HV.ids])]
 | _=>rfl
theorem afz {h:HV} {n:Nat} {i:Int} (ho:∀ k ∈ h.ids,o' k = o k):a2n o' n i h = a2n o n i h:=by
 cases h with
 | ref id n=>simp only [a2n];rw [ho id (by simp [HV.ids])]
 | win id n i m=>simp only [a2n];rw [ho id (by simp [HV.ids])]
 | row id i k=>simp only [a2n];rw [ho id (by simp [HV.ids])]
 | p x=>cases x <;> rfl
 | _=>rfl
theorem ac1 {h:HV} {n:Nat} {x y z:Option Int} (ho:∀ k ∈ h.ids,o' k = o k):ul o' n x y z h = ul o n x y z h:=by
 cases h with
 | ref id n=>simp only [ul];rw [ho id (by simp [HV.ids])]
 | win id n i m=>simp only [ul];rw [ho id (by simp [HV.ids])]
 | _=>rfl
theorem a81 {x:Operand} {l:List Operand} {F:bd → HV → Option Out} {α:Type} {d:α} {G:Option Out → α} (hF:∀ h:HV,(∀ k ∈ h.ids,o' k = o k) → F o' h = F o h) (hl:x ∈ l) (ho:∀ k ∈ d5 e l,o' k = o k) :
 (match e x with | some (.v (.one h))=>G (F o' h) | _=>d) = (match e x with | some (.v (.one h))=>G (F o h) | _=>d):=by
 cases hex:e x with
 | none=>rfl
 | some r =>
  cases r with
  | tup l=>rfl
  | v cc =>
   cases cc with
   | agg l=>rfl
   | one h =>
    dsimp only
    rw [hF h fun k hk=>ho k (dz hex hl k hk)]
theorem a6a {b:Builtin} {args:List Operand} {tys:List TypeId} (h:∀ x ∈ args,e' x = e x) (ho:∀ k ∈ d5 e args,o' k = o k):pn E o' e' b args tys = pn E o e b args tys:=by
 unfold pn
 split
 · rename_i x t r
   rw [h x (by simp)]
   cases E t with
   | none=>rfl
   | some ti =>
    dsimp only
    cases ti.k <;> try rfl
    exact a81 (G:=id) (F:=a0s) (fun h hh=>afe hh) (by simp) ho
 · rfl
theorem ad5 {x:Operand} (ho:∀ k ∈ d5 e [x],o' k = o k):nc o' e x = nc o e x:=by
 unfold nc
 cases hex:e x with
 | none=>rfl
 | some r =>
  cases r with
  | tup l=>rfl
  | v cc =>
   cases cc with
   | agg l=>rfl
   | one h =>
    have:=vf (o:=o) (o':=o') (h:=h) (fun k hk=>ho k (dz hex (by simp) k hk))
    cases h with
    | p x=>cases x <;> rfl
    | ref id n=>rfl
    | ptr id off=>dsimp only;rw [this]
    | eptr id n i j=>dsimp only;rw [this]
    | win id n i m=>rfl
    | clo g k caps=>rfl
    | row id i k=>rfl
    | rptr id i k r j=>dsimp only;rw [this]
    | pin id n ad cap=>rfl
theorem a9y {t:TypeId} {x:Operand} (ho:∀ k ∈ d5 e [x],o' k = o k):jy E o' e t x = jy E o e t x:=by
 unfold jy
 cases E t with
 | none=>rfl
 | some i =>
  dsimp only
  cases hex:e x with
  | none=>rfl
  | some r =>
   cases r with
   | tup l=>rfl
   | v cc =>
    cases cc with
    | agg l=>rfl
    | one h =>
     dsimp only
     rw [vf (o:=o) (o':=o') (h:=h) (fun k hk=>ho k (dz hex (by simp) k hk))]
theorem a1r {t:TypeId} {x:Operand} {k:Nat} (ho:∀ k ∈ d5 e [x],o' k = o k):f8 E o' e t x k = f8 E o e t x k:=by
 unfold f8
 cases E t with
 | none=>rfl
 | some i =>
  dsimp only
  cases i.k <;> try rfl
  rename_i fs
  dsimp only
  cases fs[k]? with
  | none=>rfl
  | some q =>
   obtain ⟨off,ft,bl⟩:=q
   dsimp only
   cases E ft with
   | none=>rfl
   | some fi =>
    dsimp only
    cases hex:e x with
    | none=>rfl
    | some r =>
     cases r with
     | tup l=>rfl
     | v cc =>
      cases cc with
      | agg l=>rfl
      | one h =>
       dsimp only
       rw [vf (o:=o) (o':=o') (h:=h) (fun k hk=>ho k (dz hex (by simp) k hk))]
theorem a38 {len:Nat} {el:TypeId} {x i:Operand} (ho:∀ k ∈ d5 e [x],o' k = o k):kp E o' e len el x i = kp E o e len el x i:=by
 unfold kp
 cases E el with
 | none=>rfl
 | some ei =>
  dsimp only
  cases hex:e x with
  | none=>rfl
  | some r =>
   cases r with
   | tup l=>rfl
   | v cc =>
    cases cc with
    | agg l=>rfl
    | one h =>
     dsimp only
     rw [vf (o:=o) (o':=o') (h:=h) (fun k hk=>ho k (dz hex (by simp) k hk))]
theorem a1s {t:TypeId} {x i:Operand} (ho:∀ k ∈ d5 e [x],o' k = o k):fm E o' e t x i = fm E o e t x i:=by
 unfold fm
 cases E t with
 | none=>rfl
 | some ii =>
  dsimp only
  cases ii.k <;> try rfl
  case array len el=>exact a38 ho
  rename_i el
  dsimp only
  cases E el with
  | none=>rfl
  | some ei =>
   dsimp only
   cases hex:e x with
   | none=>rfl
   | some r =>
    cases r with
    | tup l=>rfl
    | v cc =>
     cases cc with
     | agg l=>rfl
     | one h =>
      dsimp only
      have:=fun iv=>afz (o:=o) (o':=o') (h:=h) (n:=ei.size) (i:=iv) (fun k hk=>ho k (dz hex (by simp) k hk))
      simp only [this]
theorem acp {h:HV} {kk:KK} {m:MK} {z:Value} {cm:Bool} (ho:∀ k ∈ h.ids,o' k = o k):a5p o' kk m z cm h = a5p o kk m z cm h:=by
 cases h with
 | ref id n=>simp only [a5p];rw [ho id (by simp [HV.ids])]
 | _=>rfl
theorem a6i {t:TypeId} {x i:Operand} {cm:Bool} (ho:∀ k ∈ d5 e [x],o' k = o k):iz E o' e t x i cm = iz E o e t x i cm:=by
 unfold iz
 cases E t with
 | none=>rfl
 | some ii =>
  dsimp only
  cases ii.k <;> try rfl
  rename_i kt et
  dsimp only
  cases afq E kt et with
  | none=>rfl
  | some q =>
   obtain ⟨kk,z⟩:=q
   dsimp only
   cases hex:e x with
   | none=>rfl
   | some r =>
    cases r with
    | tup l=>rfl
    | v cc =>
     cases cc with
     | agg l=>rfl
     | one h =>
      dsimp only
      have:=fun m=>acp (o:=o) (o':=o') (h:=h) (kk:=kk) (m:=m) (z:=z) (cm:=cm) (fun k hk=>ho k (dz hex (by simp) k hk))
      simp only [this]
theorem a8t {h:HV} {op:BinOp} (ho:∀ k ∈ h.ids,o' k = o k):ww o' op h = ww o op h:=by
 cases h with
 | ptr id n=>simp only [ww];rw [ho id (by simp [HV.ids])]
 | p x=>cases x with
  | raw v=>cases v <;> rfl
  | _=>rfl
 | _=>rfl
theorem a69 {op:BinOp} {t:TypeId} {x y:Operand} (ho:∀ k ∈ d5 e [x],o' k = o k):iw E o' e op t x y = iw E o e op t x y:=by
 unfold iw
 split <;> try rfl
 cases E t with
 | none=>rfl
 | some ii =>
  dsimp only
  cases ii.k <;> try rfl
  dsimp only
  cases hex:e x with
  | none=>rfl
  | some r =>
   cases r with
   | tup l=>rfl
   | v cc =>
    cases cc with
    | agg l=>rfl
    | one h=>exact a8t (fun k hk=>ho k (dz hex (by simp) k hk))
theorem ak6 {op:Op} (hx:∀ x ∈ op.operands,e' x = e x) (ho:∀ k ∈ d5 e op.operands.toList,o' k = o k):hq E ex o' e' op = hq E ex o e op:=by
 cases op <;> try rfl
 case move x=>show Option.map _ (e' x) = Option.map _ (e x);rw [hx x (by simp [Op.operands])]
 case assign x=>show Option.map _ (e' x) = Option.map _ (e x);rw [hx x (by simp [Op.operands])]
 case pick c x y =>
  show ws e' c x y = ws e c x y
  unfold ws
  rw [hx c (by simp [Op.operands]),hx x (by simp [Op.operands]),hx y (by simp [Op.operands])]
 case nilCheck x =>
  show nc o' e' x = nc o e x
  have h1:nc o' e' x = nc o' e x:=by unfold nc;rw [hx x (by simp [Op.operands])]
  rw [h1]
  exact ad5 (by simpa [Op.operands] using ho)
 case load t x =>
  show jy E o' e' t x = jy E o e t x
  have h1:jy E o' e' t x = jy E o' e t x:=by unfold jy;rw [hx x (by simp [Op.operands])]
  rw [h1]
  exact a9y (by simpa [Op.operands] using ho)
 case fieldAddr t x k =>
  show f8 E o' e' t x k = f8 E o e t x k
  have h1:f8 E o' e' t x k = f8 E o' e t x k:=by unfold f8;rw [hx x (by simp [Op.operands])]
  rw [h1]
  exact a1r (by simpa [Op.operands] using ho)
 case field t x k =>
  show t8 E e' t x k = t8 E e t x k
  unfold t8
  rw [hx x (by simp [Op.operands])]
 case indexAddr t x i =>
  show fm E o' e' t x i = fm E o e t x i
  have h1:fm E o' e' t x i = fm E o' e t x i:=by unfold fm kp;rw [hx x (by simp [Op.operands]),hx i (by simp [Op.operands])]
  rw [h1]
  refine a1s fun k hk=>ho k ?_
  simp only [d5,Op.operands,List.append_nil] at hk ⊢
  exact List.mem_append_left _ hk
 case lookup t x i cm =>
  show iz E o' e' t x i cm = iz E o e t x i cm
  have h1:iz E o' e' t x i cm = iz E o' e t x i cm:=by unfold iz;rw [hx x (by simp [Op.operands]),hx i (by simp [Op.operands])]
  rw [h1]
  refine a6i fun k hk=>ho k ?_
  simp only [d5,Op.operands,List.append_nil] at hk ⊢
  exact List.mem_append_left _ hk
 case index t x i =>
  show t6 E e' t x i = t6 E e t x i
  unfold t6
  rw [hx x (by simp [Op.operands]),hx i (by simp [Op.operands])]
 case binOp op t x y ty =>
  have h1:a15 E ex e' op t x y = a15 E ex e op t x y:=by
   unfold a15
   rw [hx x (by simp [Op.operands]),hx y (by simp [Op.operands])]
  have h2:pz E e' op t x y = pz E e op t x y:=by
   unfold pz
   rw [hx x (by simp [Op.operands])]
  have h3:iw E o' e' op t x y = iw E o e op t x y:=by
   have h1:iw E o' e' op t x y = iw E o' e op t x y:=by unfold iw;rw [hx x (by simp [Op.operands])]
   rw [h1]
   refine a69 fun k hk=>ho k ?_
   simp only [d5,Op.operands,List.append_nil] at hk ⊢
   exact List.mem_append_left _ hk
  simp only [hq]
  rw [h1,h2,h3]
 case unOp op t x =>
  show a78 ex e' op x = a78 ex e op x
  unfold a78
  rw [hx x (by simp [Op.operands])]
 case convert src dst x =>
  show w9 E ex e' src dst x = w9 E ex e src dst x
  unfold w9
  rw [hx x (by simp [Op.operands])]
 case extract x i =>
  show nz e' x i = nz e x i
  unfold nz
  rw [hx x (by simp [Op.operands])]
 case slice t x lo hi mx =>
  have e0:=hx x (by simp [Op.operands])
  have e1:=jz (e:=e) (e':=e') (x:=lo) (fun y hy=>hx y (by simp [Op.operands];simp at hy;simp [hy]))
  have e2:=jz (e:=e) (e':=e') (x:=hi) (fun y hy=>hx y (by simp [Op.operands];simp at hy;simp [hy]))
  have e3:=jz (e:=e) (e':=e') (x:=mx) (fun y hy=>hx y (by simp [Op.operands];simp at hy;simp [hy]))
  have h1:j7 E e' t x lo hi mx = j7 E e t x lo hi mx:=by
   unfold j7
   rw [e0,e1,e2,e3]
  have h2:a16 E o' e' t x lo hi mx = a16 E o e t x lo hi mx:=by
   unfold a16
   rw [e0,e1,e2,e3]
   cases E t with
   | none=>rfl
   | some ti =>
    dsimp only
    cases ti.k <;> try rfl
    rename_i el
    dsimp only
    cases E el with
    | none=>rfl
    | some ei =>
     dsimp only
     cases go e lo with
     | none=>rfl
     | some l =>
      cases go e hi with
      | none=>rfl
      | some hh =>
       cases go e mx with
       | none=>rfl
       | some m =>
        dsimp only
        exact a81 (G:=id) (F:=fun o h=>ul o ei.size l hh m h) (fun h hh=>ac1 hh) (l:=(Op.slice t x lo hi mx).operands.toList) (by simp [Op.operands]) ho
  simp only [hq]
  rw [h1,h2]
 case makeFunc fn first caps =>
  show x4 e' fn first.toList caps.toList = x4 e fn first.toList caps.toList
  unfold x4
  rw [a1u (l:=caps.toList) (fun y hy=>hx y (by simp [Op.operands];simp at hy;exact .inr hy)),a2e (l:=caps.toList) (fun y hy=>hx y (by simp [Op.operands];simp at hy;exact .inr hy))]
  split
  · rfl
  · rename_i f x hf
    rw [hx x (by simp [Op.operands];left;rw [← Array.mem_toList_iff,hf];simp)]
  · rfl
 case build t parts =>
  show su E e' t parts.toList = su E e t parts.toList
  have hf:∀ places cells,gj e' places cells parts.toList = gj e places cells parts.toList:=fun places cells=>w7 fun x hm=>hx x (by simpa [Op.operands] using hm)
  unfold su
  simp only [hf]
 case call c =>
  simp only [hq]
  cases hc:c.callee with
  | value f=>rfl
  | invoke r m=>rfl
  | builtin b =>
   simp only [Op.operands,Call.operands,hc] at hx ho
   have h1:∀ x ∈ c.args.toList,e' x = e x:=fun x hm=>hx x (by simpa using hm)
   have h2:∀ k ∈ d5 e c.args.toList,o' k = o k:=fun k hk=>ho k (by simpa using hk)
   dsimp only
   rw [a4x h1,a6a h1 h2]
theorem ak7 {op:Op} {id:Nat} (hx:∀ x ∈ op.operands,e' x = e x):ha E e' id op = ha E e id op:=by
 cases op <;> simp only [ha] <;> simp only [Op.operands] at hx
 case box t x=>rw [hx x (by simp)]
 case buildSlice t n parts =>
  have hf:∀ sz cells,a1d e' sz n parts.toList cells = a1d e sz n parts.toList cells:=fun sz cells=>by
   unfold a1d
   exact w7 fun x hm=>hx x (by simpa using hm)
  simp only [hf]
 case makeSlice t l c=>rw [hx l (by simp),hx c (by simp)]
theorem a8r {t:TypeId} {x y:Operand} (ho:∀ k ∈ d5 e [x,y],o' k = o k):j8 E o' e t x y = j8 E o e t x y:=by
 unfold j8
 cases E t with
 | none=>rfl
 | some i =>
  cases hv:e y with
  | none=>rfl
  | some rv =>
   cases rv with
   | tup l=>rfl
   | v cv =>
    cases hex:e x with
    | none=>rfl
    | some r =>
     cases r with
     | tup l=>rfl
     | v cc =>
      cases cc with
      | agg l=>rfl
      | one h =>
       cases h with
       | p x=>cases x <;> rfl
       | ref id n=>rfl
       | ptr id off=>dsimp only;rw [ho id (dz hex (by simp) id (by simp [HR.ids,HC.ids,HV.ids]))]
       | eptr id n r j=>dsimp only;rw [ho id (dz hex (by simp) id (by simp [HR.ids,HC.ids,HV.ids]))]
       | win id n i m=>rfl
       | clo g k caps=>rfl
       | row id i k=>rfl
       | rptr id i k r j=>dsimp only;rw [ho id (dz hex (by simp) id (by simp [HR.ids,HC.ids,HV.ids]))]
       | pin id n ad cap=>rfl
theorem ab2 {h:HV} {kk:KK} {m:MK} {y:PV} (ho:∀ k ∈ h.ids,o' k = o k):zh o' kk m y h = zh o kk m y h:=by
 cases h with
 | ref id n=>simp only [zh];rw [ho id (by simp [HV.ids])]
 | _=>rfl
theorem a1z {t:TypeId} {x i v:Operand} (ho:∀ k ∈ d5 e [x],o' k = o k):ja E o' e t x i v = ja E o e t x i v:=by
 unfold ja
 cases E t with
 | none=>rfl
 | some ii =>
  dsimp only
  cases ii.k <;> try rfl
  rename_i kt et
  dsimp only
  cases E kt with
  | none=>rfl
  | some ki =>
   dsimp only
   cases hex:e x with
   | none=>rfl
   | some r =>
    cases r with
    | tup l=>rfl
    | v cc =>
     cases cc with
     | agg l=>rfl
     | one h =>
      dsimp only
      have:=fun kk m y=>ab2 (o:=o) (o':=o') (h:=h) (kk:=kk) (m:=m) (y:=y) (fun k hk=>ho k (dz hex (by simp) k hk))
      simp only [this]
theorem ac0 {op:Op} (hx:∀ x ∈ op.operands,e' x = e x) (ho:∀ k ∈ d5 e op.operands.toList,o' k = o k):hs E o' e' op = hs E o e op:=by
 cases op <;> try rfl
 case mapUpdate t x i v =>
  show ja E o' e' t x i v = ja E o e t x i v
  have h1:ja E o' e' t x i v = ja E o' e t x i v:=by unfold ja;rw [hx x (by simp [Op.operands]),hx i (by simp [Op.operands]),hx v (by simp [Op.operands])]
  rw [h1]
  refine a1z fun k hk=>ho k ?_
  simp only [d5,Op.operands,List.append_nil] at hk ⊢
  exact List.mem_append_left _ hk
 case insert t x i v =>
  show ja E o' e' t x i v = ja E o e t x i v
  have h1:ja E o' e' t x i v = ja E o' e t x i v:=by unfold ja;rw [hx x (by simp [Op.operands]),hx i (by simp [Op.operands]),hx v (by simp [Op.operands])]
  rw [h1]
  refine a1z fun k hk=>ho k ?_
  simp only [d5,Op.operands,List.append_nil] at hk ⊢
  exact List.mem_append_left _ hk
 case store t addr v =>
  show j8 E o' e' t addr v = j8 E o e t addr v
  have h1:j8 E o' e' t addr v = j8 E o' e t addr v:=by unfold j8;rw [hx addr (by simp [Op.operands]),hx v (by simp [Op.operands])]
  rw [h1]
  exact a8r (by simpa [Op.operands] using ho)
theorem a29 {id:Nat} {h:HV} (ho:∀ k ∈ h.ids,o' k = o k):s6 o' id h = s6 o id h:=by
 cases h with
 | p x =>
  cases x with
  | raw v =>
   cases v with
   | slice a n c=>cases n <;> rfl
   | _=>rfl
  | _=>rfl
 | ref id' n=>simp only [s6];rw [ho id' (by simp [HV.ids])]
 | _=>rfl
theorem vq {id n:Nat} {wb:Bool} {el:TypeId} {y:HV} (hid:o' id = o id) (ho:∀ k ∈ y.ids,o' k = o k):nf E o' id n wb el y = nf E o id n wb el y:=by
 simp only [nf]
 rw [hid,a29 ho]
theorem a4j {id:Nat} {h:HV} (ho:∀ k ∈ h.ids,o' k = o k):a0j o' id h = a0j o id h:=by
 simp only [a0j]
 rw [a29 ho]
 cases h with
 | ref id' n=>simp only;rw [ho id' (by simp [HV.ids])]
 | _=>rfl
theorem abn {id n:Nat} {el:TypeId} {y:HV} (hid:o' id = o id) (ho:∀ k ∈ y.ids,o' k = o k):uk E o' id n el y = uk E o id n el y:=by
 simp only [uk]
 rw [hid,a4j ho]
theorem aeu {id n:Nat} {el:TypeId} {y:HV} (hid:o' id = o id) (ho:∀ k ∈ y.ids,o' k = o k):a31 E o' id n el y = a31 E o id n el y:=by
 simp only [a31]
 rw [hid,a4j ho]
theorem ad0 {el:TypeId} {id n i k:Nat} {y:HV} (hid:o' id = o id):xw E o' el id n i k y = xw E o el id n i k y:=by
 unfold xw
 rw [hid]
theorem afp {h:HV} {z:List Value} {n:Nat} (ho:∀ k ∈ h.ids,o' k = o k):a7d o' z n h = a7d o z n h:=by
 cases h with
 | win id n i m=>simp only [a7d];rw [ho id (by simp [HV.ids])]
 | _=>rfl
theorem acy {id:Nat} {wb:Bool} {el:TypeId} {hy hx:HV} (h1:∀ k ∈ hx.ids,o' k = o k) (h2:∀ k ∈ hy.ids,o' k = o k):sh E o' id wb el hy hx = sh E o id wb el hy hx:=by
 cases hx with
 | win id1 n i k =>
  simp only [sh]
  exact ad0 (h1 id1 (by simp [HV.ids]))
 | pin id1 n ad cap =>
  simp only [sh]
  rw [vq (o:=o) (o':=o') (h1 id1 (by simp [HV.ids])) h2]
 | ref id1 n =>
  simp only [sh]
  rw [vq (o:=o) (o':=o') (h1 id1 (by simp [HV.ids])) h2,abn (o:=o) (o':=o') (h1 id1 (by simp [HV.ids])) h2,aeu (o:=o) (o':=o') (h1 id1 (by simp [HV.ids])) h2]
 | p px =>
  cases px with
  | sl n sz cl f =>
   cases cl with
   | false=>rfl
   | true =>
    simp only [sh]
    cases E el with
    | none=>rfl
    | some ei =>
     dsimp only
     rw [vq (o:=fun k=>if k = id then some (ah.arr false ei.size el n f) else o k) (o':=fun k=>if k = id then some (ah.arr false ei.size el n f) else o' k) (by simp) (fun k hk=>by
      try dsimp only
      split
      · rfl
      · exact h2 k hk)]
  | _=>rfl
 | _=>rfl
theorem acz {id:Nat} {wb:Bool} {t:TypeId} {x y:Option HR} (hx:∀ r,x = some r → ∀ k ∈ r.ids,o' k = o k) (hy:∀ r,y = some r → ∀ k ∈ r.ids,o' k = o k) :
 a1n E o' id wb t x y = a1n E o id wb t x y:=by
 unfold a1n
 cases E t with
 | none=>rfl
 | some i =>
  dsimp only
  cases i.k <;> try rfl
  rename_i el
  cases x with
  | none=>rfl
  | some rx =>
   cases rx with
   | tup l=>rfl
   | v cx =>
    cases cx with
    | agg l=>rfl
    | one hxv =>
     cases y with
     | none=>rfl
     | some ry =>
      cases ry with
      | tup l=>rfl
      | v cy =>
       cases cy with
       | agg l=>rfl
       | one hyv=>exact acy (hx _ rfl) (hy _ rfl)
theorem agm {op:Op} {id:Nat} {wb:Bool} (hx:∀ x ∈ op.operands,e' x = e x) (ho:∀ k ∈ d5 e op.operands.toList,o' k = o k):hap E o' e' id wb op = hap E o e id wb op:=by
 cases op <;> try rfl
 case call c =>
  unfold hap
  dsimp only
  split
  · rename_i hc
    simp only [Op.operands,Call.operands,hc] at hx ho
    have h1:∀ x ∈ c.args.toList,e' x = e x:=fun x hm=>hx x (by simpa using hm)
    have h2:∀ k ∈ d5 e c.args.toList,o' k = o k:=fun k hk=>ho k (by simpa using hk)
    generalize c.args.toList = l at h1 h2
    unfold a1m
    split
    · rename_i x y t t' _
      split
      · rw [h1 x (by simp),h1 y (by simp)]
        exact acz (fun r hr k hk=>h2 k (dz hr (by simp) k hk)) (fun r hr k hk=>h2 k (dz hr (by simp) k hk))
      · rfl
    · rfl
  · rename_i hc
    simp only [Op.operands,Call.operands,hc] at hx ho
    have h1:∀ x ∈ c.args.toList,e' x = e x:=fun x hm=>hx x (by simpa using hm)
    have h2:∀ k ∈ d5 e c.args.toList,o' k = o k:=fun k hk=>ho k (by simpa using hk)
    generalize c.args.toList = l at h1 h2
    unfold tu
    split
    · rename_i x t _
      rw [h1 x (by simp)]
      cases E t with
      | none=>rfl
      | some ti =>
       dsimp only
       cases ti.k <;> try rfl
       rename_i el
       dsimp only
       cases E el with
       | none=>rfl
       | some ei =>
        dsimp only
        cases ei.zero with
        | none=>rfl
        | some z =>
         dsimp only
         split
         · cases hex:e x with
           | none=>rfl
           | some r =>
            cases r with
            | tup l=>rfl
            | v cc =>
             cases cc with
             | agg l=>rfl
             | one hv=>exact afp fun k hk=>h2 k (dz hex (by simp) k hk)
         · rfl
    · rfl
  · rfl
theorem a2h {h:HV} (ho:∀ k ∈ h.ids,o' k = o k):xv o' h = xv o h:=by
 cases h with
 | ref id n=>simp only [xv];rw [ho id (by simp [HV.ids])]
 | _=>rfl
end
end Go.Hx
end
