/- A part of the proof: Hx11. -/
import Derived.Test.YtkkenjdfbojdlaaGreatDoorFx09
set_option linter.all false
namespace Go.Hx
section
open Go.RowKit
section
variable {E:Env} {ex:Bool} {o o':az} {e e':Ev}
theorem f0 {x:Operand} {r:HR} (hx:e x = some r):∀ {l:List Operand},x ∈ l → ∀ k ∈ r.ids,k ∈ dp e l
 | y :: l,hm,k,hk=>by
  rcases List.mem_cons.1 hm with rfl | hm
  · simp only [dp,hx];exact List.mem_append_left _ hk
  simp only [dp];exact List.mem_append_right _ (f0 hx hm k hk)
theorem o7:∀ {l:List Operand},(∀ x ∈ l,e' x = e x) → dp e' l = dp e l
 | [],_=>rfl
 | x :: l,h=>by
  simp only [dp]
  rw [h x (by simp),o7 fun y hy=>h y (by simp [hy])]
theorem xg {h:HV} (ho:∀ k ∈ h.ids,o' k = o k):tgt o' h = tgt o h:=by
 cases h with
 | p x=>cases x <;> rfl
 | ref id n=>rfl
 | ptr id off=>simp only [tgt];rw [ho id (by simp [HV.ids])]
 | eptr id n i j=>simp only [tgt];rw [ho id (by simp [HV.ids])]
 | win id n i m=>rfl
 | clo g k caps=>rfl
 | row id i k=>rfl
 | rptr id i k r j=>simp only [tgt];rw [ho id (by simp [HV.ids])]
 | pin id n ad cap=>rfl
theorem yo {places:List (Nat × Nat)}:∀ {parts:List (Nat × Operand)} {cells:List HV},(∀ x ∈ parts.map (·.2),e' x = e x) → ig e' places cells parts = ig e places cells parts
 | [],_,_=>rfl
 | (i,x) :: r,cells,h=>by
  have hx:=h x (by simp)
  have ih:∀ cells,ig e' places cells r = ig e places cells r:=fun cells=>yo fun y hy=>h y (by simp at hy ⊢;exact .inr hy)
  simp only [ig,hx,ih]
theorem a6d:∀ {l:List Operand},(∀ x ∈ l,e' x = e x) → y5 e' l = y5 e l
 | [],_=>rfl
 | x :: l,h=>by
  simp only [y5]
  rw [h x (by simp),a6d fun y hy=>h y (by simp [hy])]
theorem a6c:∀ {l:List Operand},(∀ x ∈ l,e' x = e x) → xt e' l = xt e l
 | [],_=>rfl
 | x :: l,h=>by
  simp only [xt]
  rw [h x (by simp),a6c fun y hy=>h y (by simp [hy])]
theorem ky {x:Option Operand} (h:∀ y ∈ x.toList,e' y = e y):j0 e' x = j0 e x:=by
 cases x with
 | none=>rfl
 | some y=>simp only [j0];rw [h y (by simp)]
theorem a8x {b:Builtin} {args:List Operand} {tys:List TypeId} (h:∀ x ∈ args,e' x = e x):qh E e' b args tys = qh E e b args tys:=by
 unfold qh
 split
 · rename_i x t r
   rw [h x (by simp)]
 · rename_i x y
   rw [h x (by simp),h y (by simp)]
 · rename_i x y
   rw [h x (by simp),h y (by simp)]
 rfl
theorem alm {h:HV} (ho:∀ k ∈ h.ids,o' k = o k):a2i o' h = a2i o h:=by
 cases h with
 | ref id n=>simp only [a2i];rw [ho id (by simp [HV.ids])]
 | win id n i m=>simp only [a2i];rw [ho id (by simp [HV.ids])]
 | row id i k=>simp only [a2i];rw [ho id (by simp [HV.ids])]
 | _=>rfl
theorem an4 {h:HV} {n:Nat} {i:Int} (ho:∀ k ∈ h.ids,o' k = o k):a78 o' n i h = a78 o n i h:=by
 cases h with
 | ref id n=>simp only [a78];rw [ho id (by simp [HV.ids])]
 | win id n i m=>simp only [a78];rw [ho id (by simp [HV.ids])]
 | row id i k=>simp only [a78];rw [ho id (by simp [HV.ids])]
 | p x=>cases x <;> rfl
 | _=>rfl
theorem aes {h:HV} {n:Nat} {x y z:Option Int} (ho:∀ k ∈ h.ids,o' k = o k):wk o' n x y z h = wk o n x y z h:=by
 cases h with
 | ref id n=>simp only [wk];rw [ho id (by simp [HV.ids])]
 | win id n i m=>simp only [wk];rw [ho id (by simp [HV.ids])]
 | _=>rfl
theorem acm {x:Operand} {l:List Operand} {F:az → HV → Option Out} {α:Type} {d:α} {G:Option Out → α} (hF:∀ h:HV,(∀ k ∈ h.ids,o' k = o k) → F o' h = F o h) (hl:x ∈ l) (ho:∀ k ∈ dp e l,o' k = o k) :
 (match e x with | some (.v (.one h))=>G (F o' h) | _=>d) = (match e x with | some (.v (.one h))=>G (F o h) | _=>d):=by
 cases hex:e x with
 | none=>rfl
 | some r =>
  cases r with
  | tup l=>rfl
  | v cc =>
   cases cc with
   | agg l=>rfl
   | one h =>
    dsimp only
    rw [hF h fun k hk=>ho k (f0 hex hl k hk)]
theorem abx {b:Builtin} {args:List Operand} {tys:List TypeId} (h:∀ x ∈ args,e' x = e x) (ho:∀ k ∈ dp e args,o' k = o k):sa E o' e' b args tys = sa E o e b args tys:=by
 unfold sa
 split
 · rename_i x t r
   rw [h x (by simp)]
   cases E t with
   | none=>rfl
   | some ti =>
    dsimp only
    cases ti.k <;> try rfl
    exact acm (G:=id) (F:=a2i) (fun h hh=>alm hh) (by simp) ho
 rfl
theorem aim {x:Operand} (ho:∀ k ∈ dp e [x],o' k = o k):om o' e x = om o e x:=by
 unfold om
 cases hex:e x with
 | none=>rfl
 | some r =>
  cases r with
  | tup l=>rfl
  | v cc =>
   cases cc with
   | agg l=>rfl
   | one h =>
    have:=xg (o:=o) (o':=o') (h:=h) (fun k hk=>ho k (f0 hex (by simp) k hk))
    cases h with
    | p x=>cases x <;> rfl
    | ref id n=>rfl
    | ptr id off=>dsimp only;rw [this]
    | eptr id n i j=>dsimp only;rw [this]
    | win id n i m=>rfl
    | clo g k caps=>rfl
    | row id i k=>rfl
    | rptr id i k r j=>dsimp only;rw [this]
    | pin id n ad cap=>rfl
theorem agi {t:TypeId} {x:Operand} (ho:∀ k ∈ dp e [x],o' k = o k):kr E o' e t x = kr E o e t x:=by
 unfold kr
 cases E t with
 | none=>rfl
 | some i =>
  dsimp only
  cases hex:e x with
  | none=>rfl
  | some r =>
   cases r with
   | tup l=>rfl
   | v cc =>
    cases cc with
    | agg l=>rfl
    | one h =>
     dsimp only
     rw [xg (o:=o) (o':=o') (h:=h) (fun k hk=>ho k (f0 hex (by simp) k hk))]
theorem a5m {t:TypeId} {x:Operand} {k:Nat} (ho:∀ k ∈ dp e [x],o' k = o k):fq E o' e t x k = fq E o e t x k:=by
 unfold fq
 cases E t with
 | none=>rfl
 | some i =>
  dsimp only
  cases i.k <;> try rfl
  rename_i fs
  dsimp only
  cases fs[k]? with
  | none=>rfl
  | some q =>
   obtain ⟨off,ft,bl⟩:=q
   dsimp only
   cases E ft with
   | none=>rfl
   | some fi =>
    dsimp only
    cases hex:e x with
    | none=>rfl
    | some r =>
     cases r with
     | tup l=>rfl
     | v cc =>
      cases cc with
      | agg l=>rfl
      | one h =>
       dsimp only
       rw [xg (o:=o) (o':=o') (h:=h) (fun k hk=>ho k (f0 hex (by simp) k hk))]
theorem a71 {len:Nat} {el:TypeId} {x i:Operand} (ho:∀ k ∈ dp e [x],o' k = o k):ln E o' e len el x i = ln E o e len el x i:=by
 unfold ln
 cases E el with
 | none=>rfl
 | some ei =>
  dsimp only
  cases hex:e x with
  | none=>rfl
  | some r =>
   cases r with
   | tup l=>rfl
   | v cc =>
    cases cc with
    | agg l=>rfl
    | one h =>
     dsimp only
     rw [xg (o:=o) (o':=o') (h:=h) (fun k hk=>ho k (f0 hex (by simp) k hk))]
theorem a5l {t:TypeId} {x i:Operand} (ho:∀ k ∈ dp e [x],o' k = o k):gh E o' e t x i = gh E o e t x i:=by
 unfold gh
 cases E t with
 | none=>rfl
 | some ii =>
  dsimp only
  cases ii.k <;> try rfl
  case array len el=>exact a71 ho
  rename_i el
  dsimp only
  cases E el with
  | none=>rfl
  | some ei =>
   dsimp only
   cases hex:e x with
   | none=>rfl
   | some r =>
    cases r with
    | tup l=>rfl
    | v cc =>
     cases cc with
     | agg l=>rfl
     | one h =>
      dsimp only
      have:=fun iv=>an4 (o:=o) (o':=o') (h:=h) (n:=ei.size) (i:=iv) (fun k hk=>ho k (f0 hex (by simp) k hk))
      simp only [this]
theorem ai9 {h:HV} {kk:KK} {m:MK} {z:Value} {cm:Bool} (ho:∀ k ∈ h.ids,o' k = o k):a9h o' kk m z cm h = a9h o kk m z cm h:=by
 cases h with
 | ref id n=>simp only [a9h];rw [ho id (by simp [HV.ids])]
 | _=>rfl
theorem aba {t:TypeId} {x i:Operand} {cm:Bool} (ho:∀ k ∈ dp e [x],o' k = o k):jl E o' e t x i cm = jl E o e t x i cm:=by
 unfold jl
 cases E t with
 | none=>rfl
 | some ii =>
  dsimp only
  cases ii.k <;> try rfl
  rename_i kt et
  dsimp only
  cases am2 E kt et with
  | none=>rfl
  | some q =>
   obtain ⟨kk,z⟩:=q
   dsimp only
   cases hex:e x with
   | none=>rfl
   | some r =>
    cases r with
    | tup l=>rfl
    | v cc =>
     cases cc with
     | agg l=>rfl
     | one h =>
      dsimp only
      have:=fun m=>ai9 (o:=o) (o':=o') (h:=h) (kk:=kk) (m:=m) (z:=z) (cm:=cm) (fun k hk=>ho k (f0 hex (by simp) k hk))
      simp only [this]
theorem avi {op:Op} (hx:∀ x ∈ op.operands,e' x = e x) (ho:∀ k ∈ dp e op.operands.toList,o' k = o k):hq E ex o' e' op = hq E ex o e op:=by
 cases op <;> try rfl
 case move x=>show Option.map _ (e' x) = Option.map _ (e x);rw [hx x (by simp [Op.operands])]
 case assign x=>show Option.map _ (e' x) = Option.map _ (e x);rw [hx x (by simp [Op.operands])]
 case pick c x y =>
  show yt e' c x y = yt e c x y
  unfold yt
  rw [hx c (by simp [Op.operands]),hx x (by simp [Op.operands]),hx y (by simp [Op.operands])]
 case nilCheck x =>
  show om o' e' x = om o e x
  have h1:om o' e' x = om o' e x:=by unfold om;rw [hx x (by simp [Op.operands])]
  rw [h1]
  exact aim (by simpa [Op.operands] using ho)
 case load t x =>
  show kr E o' e' t x = kr E o e t x
  have h1:kr E o' e' t x = kr E o' e t x:=by unfold kr;rw [hx x (by simp [Op.operands])]
  rw [h1]
  exact agi (by simpa [Op.operands] using ho)
 case fieldAddr t x k =>
  show fq E o' e' t x k = fq E o e t x k
  have h1:fq E o' e' t x k = fq E o' e t x k:=by unfold fq;rw [hx x (by simp [Op.operands])]
  rw [h1]
  exact a5m (by simpa [Op.operands] using ho)
 case field t x k =>
  show vi E e' t x k = vi E e t x k
  unfold vi
  rw [hx x (by simp [Op.operands])]
 case indexAddr t x i =>
  show gh E o' e' t x i = gh E o e t x i
  have h1:gh E o' e' t x i = gh E o' e t x i:=by unfold gh ln;rw [hx x (by simp [Op.operands]),hx i (by simp [Op.operands])]
  rw [h1]
  refine a5l fun k hk=>ho k ?_
  simp only [dp,Op.operands,List.append_nil] at hk ⊢
  exact List.mem_append_left _ hk
 case lookup t x i cm =>
  show jl E o' e' t x i cm = jl E o e t x i cm
  have h1:jl E o' e' t x i cm = jl E o' e t x i cm:=by unfold jl;rw [hx x (by simp [Op.operands]),hx i (by simp [Op.operands])]
  rw [h1]
  refine aba fun k hk=>ho k ?_
  simp only [dp,Op.operands,List.append_nil] at hk ⊢
  exact List.mem_append_left _ hk
 case index t x i =>
  show vu E e' t x i = vu E e t x i
  unfold vu
  rw [hx x (by simp [Op.operands]),hx i (by simp [Op.operands])]
 case binOp op t x y ty =>
  have h1:a4j E ex e' op t x y = a4j E ex e op t x y:=by
   unfold a4j
   rw [hx x (by simp [Op.operands]),hx y (by simp [Op.operands])]
  have h2:s4 E e' op t x y = s4 E e op t x y:=by
   unfold s4
   rw [hx x (by simp [Op.operands])]
  simp only [hq]
  rw [h1,h2]
 case unOp op t x =>
  show abs ex e' op x = abs ex e op x
  unfold abs
  rw [hx x (by simp [Op.operands])]
 case convert src dst x =>
  show zi E ex e' src dst x = zi E ex e src dst x
  unfold zi
  rw [hx x (by simp [Op.operands])]
 case extract x i =>
  show qa e' x i = qa e x i
  unfold qa
  rw [hx x (by simp [Op.operands])]
 case slice t x lo hi mx =>
  have e0:=hx x (by simp [Op.operands])
  have e1:=ky (e:=e) (e':=e') (x:=lo) (fun y hy=>hx y (by simp [Op.operands];simp at hy;simp [hy]))
  have e2:=ky (e:=e) (e':=e') (x:=hi) (fun y hy=>hx y (by simp [Op.operands];simp at hy;simp [hy]))
  have e3:=ky (e:=e) (e':=e') (x:=mx) (fun y hy=>hx y (by simp [Op.operands];simp at hy;simp [hy]))
  have h1:jv E e' t x lo hi mx = jv E e t x lo hi mx:=by
   unfold jv
   rw [e0,e1,e2,e3]
  have h2:a59 E o' e' t x lo hi mx = a59 E o e t x lo hi mx:=by
   unfold a59
   rw [e0,e1,e2,e3]
   cases E t with
   | none=>rfl
   | some ti =>
    dsimp only
    cases ti.k <;> try rfl
    rename_i el
    dsimp only
    cases E el with
    | none=>rfl
    | some ei =>
     dsimp only
     cases j0 e lo with
     | none=>rfl
     | some l =>
      cases j0 e hi with
      | none=>rfl
      | some hh =>
       cases j0 e mx with
       | none=>rfl
       | some m =>
        dsimp only
        exact acm (G:=id) (F:=fun o h=>wk o ei.size l hh m h) (fun h hh=>aes hh) (l:=(Op.slice t x lo hi mx).operands.toList) (by simp [Op.operands]) ho
  simp only [hq]
  rw [h1,h2]
 case makeFunc fn first caps =>
  show yr e' fn first.toList caps.toList = yr e fn first.toList caps.toList
  unfold yr
  rw [a6d (l:=caps.toList) (fun y hy=>hx y (by simp [Op.operands];simp at hy;exact .inr hy)),a6c (l:=caps.toList) (fun y hy=>hx y (by simp [Op.operands];simp at hy;exact .inr hy))]
  split
  · rfl
  · rename_i f x hf
    rw [hx x (by simp [Op.operands];left;rw [← Array.mem_toList_iff,hf];simp)]
  rfl
 case build t parts =>
  show w5 E e' t parts.toList = w5 E e t parts.toList
  have hf:∀ places cells,ig e' places cells parts.toList = ig e places cells parts.toList:=fun places cells=>yo fun x hm=>hx x (by simpa [Op.operands] using hm)
  unfold w5
  simp only [hf]
 case call c =>
  simp only [hq]
  cases hc:c.callee with
  | value f=>rfl
  | invoke r m=>rfl
  | builtin b =>
   simp only [Op.operands,Call.operands,hc] at hx ho
   have h1:∀ x ∈ c.args.toList,e' x = e x:=fun x hm=>hx x (by simpa using hm)
   have h2:∀ k ∈ dp e c.args.toList,o' k = o k:=fun k hk=>ho k (by simpa using hk)
   dsimp only
   rw [a8x h1,abx h1 h2]
theorem aui {op:Op} {id:Nat} (hx:∀ x ∈ op.operands,e' x = e x):ha E e' id op = ha E e id op:=by
 cases op <;> simp only [ha] <;> simp only [Op.operands] at hx
 case box t x=>rw [hx x (by simp)]
 case buildSlice t n parts =>
  have hf:∀ sz cells,a5c e' sz n parts.toList cells = a5c e sz n parts.toList cells:=fun sz cells=>by
   unfold a5c
   exact yo fun x hm=>hx x (by simpa using hm)
  simp only [hf]
 case makeSlice t l c=>rw [hx l (by simp),hx c (by simp)]
theorem adi {t:TypeId} {x y:Operand} (ho:∀ k ∈ dp e [x,y],o' k = o k):ju E o' e t x y = ju E o e t x y:=by
 unfold ju
 cases E t with
 | none=>rfl
 | some i =>
  cases hv:e y with
  | none=>rfl
  | some rv =>
   cases rv with
   | tup l=>rfl
   | v cv =>
    cases hex:e x with
    | none=>rfl
    | some r =>
     cases r with
     | tup l=>rfl
     | v cc =>
      cases cc with
      | agg l=>rfl
      | one h =>
       cases h with
       | p x=>cases x <;> rfl
       | ref id n=>rfl
       | ptr id off=>dsimp only;rw [ho id (f0 hex (by simp) id (by simp [HR.ids,HC.ids,HV.ids]))]
       | eptr id n r j=>dsimp only;rw [ho id (f0 hex (by simp) id (by simp [HR.ids,HC.ids,HV.ids]))]
       | win id n i m=>rfl
       | clo g k caps=>rfl
       | row id i k=>rfl
       | rptr id i k r j=>dsimp only;rw [ho id (f0 hex (by simp) id (by simp [HR.ids,HC.ids,HV.ids]))]
       | pin id n ad cap=>rfl
theorem aeq {h:HV} {kk:KK} {m:MK} {y:PV} (ho:∀ k ∈ h.ids,o' k = o k):a29 o' kk m y h = a29 o kk m y h:=by
 cases h with
 | ref id n=>simp only [a29];rw [ho id (by simp [HV.ids])]
 | _=>rfl
theorem ai2 {t:TypeId} {x i v:Operand} (ho:∀ k ∈ dp e [x],o' k = o k):rz E o' e t x i v = rz E o e t x i v:=by
 unfold rz
 cases E t with
 | none=>rfl
 | some ii =>
  dsimp only
  cases ii.k <;> try rfl
  rename_i kt et
  dsimp only
  cases E kt with
  | none=>rfl
  | some ki =>
   dsimp only
   cases hex:e x with
   | none=>rfl
   | some r =>
    cases r with
    | tup l=>rfl
    | v cc =>
     cases cc with
     | agg l=>rfl
     | one h =>
      dsimp only
      have:=fun kk m y=>aeq (o:=o) (o':=o') (h:=h) (kk:=kk) (m:=m) (y:=y) (fun k hk=>ho k (f0 hex (by simp) k hk))
      simp only [this]
theorem aec {op:Op} (hx:∀ x ∈ op.operands,e' x = e x) (ho:∀ k ∈ dp e op.operands.toList,o' k = o k):hs E o' e' op = hs E o e op:=by
 cases op <;> try rfl
 case mapUpdate t x i v =>
  show rz E o' e' t x i v = rz E o e t x i v
  have h1:rz E o' e' t x i v = rz E o' e t x i v:=by unfold rz;rw [hx x (by simp [Op.operands]),hx i (by simp [Op.operands]),hx v (by simp [Op.operands])]
  rw [h1]
  refine ai2 fun k hk=>ho k ?_
  simp only [dp,Op.operands,List.append_nil] at hk ⊢
  exact List.mem_append_left _ hk
 case store t addr v =>
  show ju E o' e' t addr v = ju E o e t addr v
  have h1:ju E o' e' t addr v = ju E o' e t addr v:=by unfold ju;rw [hx addr (by simp [Op.operands]),hx v (by simp [Op.operands])]
  rw [h1]
  exact adi (by simpa [Op.operands] using ho)
theorem a64 {id:Nat} {h:HV} (ho:∀ k ∈ h.ids,o' k = o k):va o' id h = va o id h:=by
 cases h with
 | p x =>
  cases x with
  | raw v =>
   cases v with
   | slice a n c=>cases n <;> rfl
   | _=>rfl
  | _=>rfl
 | ref id' n=>simp only [va];rw [ho id' (by simp [HV.ids])]
 | _=>rfl
theorem yj {id n:Nat} {wb:Bool} {el:TypeId} {y:HV} (hid:o' id = o id) (ho:∀ k ∈ y.ids,o' k = o k):oq E o' id n wb el y = oq E o id n wb el y:=by
 simp only [oq]
 rw [hid,a64 ho]
theorem a8n {id:Nat} {h:HV} (ho:∀ k ∈ h.ids,o' k = o k):a48 o' id h = a48 o id h:=by
 simp only [a48]
 rw [a64 ho]
 cases h with
 | ref id' n=>simp only;rw [ho id' (by simp [HV.ids])]
 | _=>rfl
theorem aeh {id n:Nat} {el:TypeId} {y:HV} (hid:o' id = o id) (ho:∀ k ∈ y.ids,o' k = o k):w9 E o' id n el y = w9 E o id n el y:=by
 simp only [w9]
 rw [hid,a8n ho]
theorem ane {id n:Nat} {el:TypeId} {y:HV} (hid:o' id = o id) (ho:∀ k ∈ y.ids,o' k = o k):a6x E o' id n el y = a6x E o id n el y:=by
 simp only [a6x]
 rw [hid,a8n ho]
theorem ahu {el:TypeId} {id n i k:Nat} {y:HV} (hid:o' id = o id):a0x E o' el id n i k y = a0x E o el id n i k y:=by
 unfold a0x
 rw [hid]
theorem am7 {h:HV} {z:List Value} {n:Nat} (ho:∀ k ∈ h.ids,o' k = o k):aax o' z n h = aax o z n h:=by
 cases h with
 | win id n i m=>simp only [aax];rw [ho id (by simp [HV.ids])]
 | _=>rfl
theorem ai6 {id:Nat} {wb:Bool} {el:TypeId} {hy hx:HV} (h1:∀ k ∈ hx.ids,o' k = o k) (h2:∀ k ∈ hy.ids,o' k = o k):vc E o' id wb el hy hx = vc E o id wb el hy hx:=by
 cases hx with
 | win id1 n i k =>
  simp only [vc]
  exact ahu (h1 id1 (by simp [HV.ids]))
 | pin id1 n ad cap =>
  simp only [vc]
  rw [yj (o:=o) (o':=o') (h1 id1 (by simp [HV.ids])) h2]
 | ref id1 n =>
  simp only [vc]
  rw [yj (o:=o) (o':=o') (h1 id1 (by simp [HV.ids])) h2,aeh (o:=o) (o':=o') (h1 id1 (by simp [HV.ids])) h2,ane (o:=o) (o':=o') (h1 id1 (by simp [HV.ids])) h2]
 | p px =>
  cases px with
  | sl n sz cl f =>
   cases cl with
   | false=>rfl
   | true =>
    simp only [vc]
    cases E el with
    | none=>rfl
    | some ei =>
     dsimp only
     rw [yj (o:=fun k=>if k = id then some (ai.arr false ei.size el n f) else o k) (o':=fun k=>if k = id then some (ai.arr false ei.size el n f) else o' k) (by simp) (fun k hk=>by
      try dsimp only
      split
      · rfl
      exact h2 k hk)]
  | _=>rfl
 | _=>rfl
theorem ahw {id:Nat} {wb:Bool} {t:TypeId} {x y:Option HR} (hx:∀ r,x = some r → ∀ k ∈ r.ids,o' k = o k) (hy:∀ r,y = some r → ∀ k ∈ r.ids,o' k = o k) :
 a4k E o' id wb t x y = a4k E o id wb t x y:=by
 unfold a4k
 cases E t with
 | none=>rfl
 | some i =>
  dsimp only
  cases i.k <;> try rfl
  rename_i el
  cases x with
  | none=>rfl
  | some rx =>
   cases rx with
   | tup l=>rfl
   | v cx =>
    cases cx with
    | agg l=>rfl
    | one hxv =>
     cases y with
     | none=>rfl
     | some ry =>
      cases ry with
      | tup l=>rfl
      | v cy =>
       cases cy with
       | agg l=>rfl
       | one hyv=>exact ai6 (hx _ rfl) (hy _ rfl)
theorem anz {op:Op} {id:Nat} {wb:Bool} (hx:∀ x ∈ op.operands,e' x = e x) (ho:∀ k ∈ dp e op.operands.toList,o' k = o k):hap E o' e' id wb op = hap E o e id wb op:=by
 cases op <;> try rfl
 case call c =>
  unfold hap
  dsimp only
  split
  · rename_i hc
    simp only [Op.operands,Call.operands,hc] at hx ho
    have h1:∀ x ∈ c.args.toList,e' x = e x:=fun x hm=>hx x (by simpa using hm)
    have h2:∀ k ∈ dp e c.args.toList,o' k = o k:=fun k hk=>ho k (by simpa using hk)
    generalize c.args.toList = l at h1 h2
    unfold a4n
    split
    · rename_i x y t t' _
      split
      · rw [h1 x (by simp),h1 y (by simp)]
        exact ahw (fun r hr k hk=>h2 k (f0 hr (by simp) k hk)) (fun r hr k hk=>h2 k (f0 hr (by simp) k hk))
      rfl
    rfl
  · rename_i hc
    simp only [Op.operands,Call.operands,hc] at hx ho
    have h1:∀ x ∈ c.args.toList,e' x = e x:=fun x hm=>hx x (by simpa using hm)
    have h2:∀ k ∈ dp e c.args.toList,o' k = o k:=fun k hk=>ho k (by simpa using hk)
    generalize c.args.toList = l at h1 h2
    unfold wv
    split
    · rename_i x t _
      rw [h1 x (by simp)]
      cases E t with
      | none=>rfl
      | some ti =>
       dsimp only
       cases ti.k <;> try rfl
       rename_i el
       dsimp only
       cases E el with
       | none=>rfl
       | some ei =>
        dsimp only
        cases ei.zero with
        | none=>rfl
        | some z =>
         dsimp only
         split
         · cases hex:e x with
           | none=>rfl
           | some r =>
            cases r with
            | tup l=>rfl
            | v cc =>
             cases cc with
             | agg l=>rfl
             | one hv=>exact am7 fun k hk=>h2 k (f0 hex (by simp) k hk)
         rfl
    rfl
  rfl
theorem a63 {h:HV} (ho:∀ k ∈ h.ids,o' k = o k):a0r o' h = a0r o h:=by
 cases h with
 | ref id n=>simp only [a0r];rw [ho id (by simp [HV.ids])]
 | _=>rfl
end
end
end Go.Hx
