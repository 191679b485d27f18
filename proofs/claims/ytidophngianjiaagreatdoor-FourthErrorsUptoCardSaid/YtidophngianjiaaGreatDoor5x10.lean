/- A part of the proof: Hx11. -/
import Derived.Test.YtidophngianjiaaGreatDoor5x09
set_option linter.all false
section
namespace Go.Hx
open Go.RowKit
section
variable {E : Env} {ex : Bool} {o o' : aq} {e e' : Ev}
theorem cz {x : Operand} {r : HR} (hx : e x = some r) : ∀ {l : List Operand}, x ∈ l → ∀ k ∈ r.ids, k ∈ bw e l
 | y :: l, hm, k, hk => by
  rcases List.mem_cons.1 hm with rfl | hm
  · simp only [bw, hx]; exact List.mem_append_left _ hk
  · simp only [bw]; exact List.mem_append_right _ (cz hx hm k hk)
theorem jn : ∀ {l : List Operand}, (∀ x ∈ l, e' x = e x) → bw e' l = bw e l
 | [], _ => rfl
 | x :: l, h => by
  simp only [bw]
  rw [h x (by simp), jn fun y hy => h y (by simp [hy])]
theorem oz {h : HV} (ho : ∀ k ∈ h.ids, o' k = o k) : tgt o' h = tgt o h := by
 cases h with
 | p x => cases x <;> rfl
 | ref id n => rfl
 | ptr id off => simp only [tgt]; rw [ho id (by simp [HV.ids])]
 | eptr id n i j => simp only [tgt]; rw [ho id (by simp [HV.ids])]
 | win id n i m => rfl
 | clo g k caps => rfl
 | row id i k => rfl
 | rptr id i k r j => simp only [tgt]; rw [ho id (by simp [HV.ids])]
 | pin id n ad cap => rfl
theorem qb {places : List (Nat × Nat)} : ∀ {parts : List (Nat × Operand)} {cells : List HV}, (∀ x ∈ parts.map (·.2), e' x = e x) → dw e' places cells parts = dw e places cells parts
 | [], _, _ => rfl
 | (i, x) :: r, cells, h => by
  have hx := h x (by simp)
  have ih : ∀ cells, dw e' places cells r = dw e places cells r := fun cells => qb fun y hy => h y (by simp at hy ⊢; exact .inr hy)
  simp only [dw, hx, ih]
theorem xn : ∀ {l : List Operand}, (∀ x ∈ l, e' x = e x) → p6 e' l = p6 e l
 | [], _ => rfl
 | x :: l, h => by
  simp only [p6]
  rw [h x (by simp), xn fun y hy => h y (by simp [hy])]
theorem xp : ∀ {l : List Operand}, (∀ x ∈ l, e' x = e x) → om e' l = om e l
 | [], _ => rfl
 | x :: l, h => by
  simp only [om]
  rw [h x (by simp), xp fun y hy => h y (by simp [hy])]
theorem gm {x : Option Operand} (h : ∀ y ∈ x.toList, e' y = e y) : ee e' x = ee e x := by
 cases x with
 | none => rfl
 | some y => simp only [ee]; rw [h y (by simp)]
theorem zi {b : Builtin} {args : List Operand} {tys : List TypeId} (h : ∀ x ∈ args, e' x = e x) : kf E e' b args tys = kf E e b args tys := by
 unfold kf
 split
 · rename_i x t r
   rw [h x (by simp)]
 · rename_i x y
   rw [h x (by simp), h y (by simp)]
 · rename_i x y
   rw [h x (by simp), h y (by simp)]
 · rfl
theorem a9x {h : HV} (ho : ∀ k ∈ h.ids, o' k = o k) : uy o' h = uy o h := by
 cases h with
 | ref id n => simp only [uy]; rw [ho id (by simp [HV.ids])]
 | win id n i m => simp only [uy]; rw [ho id (by simp [HV.ids])]
 | row id i k => simp only [uy]; rw [ho id (by simp [HV.ids])]
 | _ => rfl
theorem a9e {h : HV} {n : Nat} {i : Int} (ho : ∀ k ∈ h.ids, o' k = o k) : y5 o' n i h = y5 o n i h := by
 cases h with
 | ref id n => simp only [y5]; rw [ho id (by simp [HV.ids])]
 | win id n i m => simp only [y5]; rw [ho id (by simp [HV.ids])]
 | row id i k => simp only [y5]; rw [ho id (by simp [HV.ids])]
 | p x => cases x <;> rfl
 | _ => rfl
theorem a5g {h : HV} {n : Nat} {x y z : Option Int} (ho : ∀ k ∈ h.ids, o' k = o k) : nx o' n x y z h = nx o n x y z h := by
 cases h with
 | ref id n => simp only [nx]; rw [ho id (by simp [HV.ids])]
 | win id n i m => simp only [nx]; rw [ho id (by simp [HV.ids])]
 | _ => rfl
theorem a2z {x : Operand} {l : List Operand} {F : aq → HV → Option Out} {α : Type} {d : α} {G : Option Out → α} (hF : ∀ h : HV, (∀ k ∈ h.ids, o' k = o k) → F o' h = F o h) (hl : x ∈ l) (ho : ∀ k ∈ bw e l, o' k = o k) :
 (match e x with | some (.v (.one h)) => G (F o' h) | _ => d) = (match e x with | some (.v (.one h)) => G (F o h) | _ => d) := by
 cases hex : e x with
 | none => rfl
 | some r =>
  cases r with
  | tup l => rfl
  | v cc =>
   cases cc with
   | agg l => rfl
   | one h =>
    dsimp only
    rw [hF h fun k hk => ho k (cz hex hl k hk)]
theorem a19 {b : Builtin} {args : List Operand} {tys : List TypeId} (h : ∀ x ∈ args, e' x = e x) (ho : ∀ k ∈ bw e args, o' k = o k) : lh E o' e' b args tys = lh E o e b args tys := by
 unfold lh
 split
 · rename_i x t r
   rw [h x (by simp)]
   cases E t with
   | none => rfl
   | some ti =>
    dsimp only
    cases ti.k <;> try rfl
    exact a2z (G := id) (F := uy) (fun h hh => a9x hh) (by simp) ho
 · rfl
theorem a7e {x : Operand} (ho : ∀ k ∈ bw e [x], o' k = o k) : ju o' e x = ju o e x := by
 unfold ju
 cases hex : e x with
 | none => rfl
 | some r =>
  cases r with
  | tup l => rfl
  | v cc =>
   cases cc with
   | agg l => rfl
   | one h =>
    have := oz (o := o) (o' := o') (h := h) (fun k hk => ho k (cz hex (by simp) k hk))
    cases h with
    | p x => cases x <;> rfl
    | ref id n => rfl
    | ptr id off => dsimp only; rw [this]
    | eptr id n i j => dsimp only; rw [this]
    | win id n i m => rfl
    | clo g k caps => rfl
    | row id i k => rfl
    | rptr id i k r j => dsimp only; rw [this]
    | pin id n ad cap => rfl
theorem a6j {t : TypeId} {x : Operand} (ho : ∀ k ∈ bw e [x], o' k = o k) : gi E o' e t x = gi E o e t x := by
 unfold gi
 cases E t with
 | none => rfl
 | some i =>
  dsimp only
  cases hex : e x with
  | none => rfl
  | some r =>
   cases r with
   | tup l => rfl
   | v cc =>
    cases cc with
    | agg l => rfl
    | one h =>
     dsimp only
     rw [oz (o := o) (o' := o') (h := h) (fun k hk => ho k (cz hex (by simp) k hk))]
theorem x7 {t : TypeId} {x : Operand} {k : Nat} (ho : ∀ k ∈ bw e [x], o' k = o k) : d9 E o' e t x k = d9 E o e t x k := by
 unfold d9
 cases E t with
 | none => rfl
 | some i =>
  dsimp only
  cases i.k <;> try rfl
  rename_i fs
  dsimp only
  cases fs[k]? with
  | none => rfl
  | some q =>
   obtain ⟨off, ft, bl⟩ := q
   dsimp only
   cases E ft with
   | none => rfl
   | some fi =>
    dsimp only
    cases hex : e x with
    | none => rfl
    | some r =>
     cases r with
     | tup l => rfl
     | v cc =>
      cases cc with
      | agg l => rfl
      | one h =>
       dsimp only
       rw [oz (o := o) (o' := o') (h := h) (fun k hk => ho k (cz hex (by simp) k hk))]
theorem yk {len : Nat} {el : TypeId} {x i : Operand} (ho : ∀ k ∈ bw e [x], o' k = o k) : gu E o' e len el x i = gu E o e len el x i := by
 unfold gu
 cases E el with
 | none => rfl
 | some ei =>
  dsimp only
  cases hex : e x with
  | none => rfl
  | some r =>
   cases r with
   | tup l => rfl
   | v cc =>
    cases cc with
    | agg l => rfl
    | one h =>
     dsimp only
     rw [oz (o := o) (o' := o') (h := h) (fun k hk => ho k (cz hex (by simp) k hk))]
theorem xb {t : TypeId} {x i : Operand} (ho : ∀ k ∈ bw e [x], o' k = o k) : dl E o' e t x i = dl E o e t x i := by
 unfold dl
 cases E t with
 | none => rfl
 | some ii =>
  dsimp only
  cases ii.k <;> try rfl
  case array len el => exact yk ho
  rename_i el
  dsimp only
  cases E el with
  | none => rfl
  | some ei =>
   dsimp only
   cases hex : e x with
   | none => rfl
   | some r =>
    cases r with
    | tup l => rfl
    | v cc =>
     cases cc with
     | agg l => rfl
     | one h =>
      dsimp only
      have := fun iv => a9e (o := o) (o' := o') (h := h) (n := ei.size) (i := iv) (fun k hk => ho k (cz hex (by simp) k hk))
      simp only [this]
theorem a72 {h : HV} {kk : KK} {m : MK} {z : Value} {cm : Bool} (ho : ∀ k ∈ h.ids, o' k = o k) : a0p o' kk m z cm h = a0p o kk m z cm h := by
 cases h with
 | ref id n => simp only [a0p]; rw [ho id (by simp [HV.ids])]
 | _ => rfl
theorem a1t {t : TypeId} {x i : Operand} {cm : Bool} (ho : ∀ k ∈ bw e [x], o' k = o k) : ff E o' e t x i cm = ff E o e t x i cm := by
 unfold ff
 cases E t with
 | none => rfl
 | some ii =>
  dsimp only
  cases ii.k <;> try rfl
  rename_i kt et
  dsimp only
  cases aam E kt et with
  | none => rfl
  | some q =>
   obtain ⟨kk, z⟩ := q
   dsimp only
   cases hex : e x with
   | none => rfl
   | some r =>
    cases r with
    | tup l => rfl
    | v cc =>
     cases cc with
     | agg l => rfl
     | one h =>
      dsimp only
      have := fun m => a72 (o := o) (o' := o') (h := h) (kk := kk) (m := m) (z := z) (cm := cm) (fun k hk => ho k (cz hex (by simp) k hk))
      simp only [this]
theorem agu {op : Op} (hx : ∀ x ∈ op.operands, e' x = e x) (ho : ∀ k ∈ bw e op.operands.toList, o' k = o k) : hq E ex o' e' op = hq E ex o e op := by
 cases op <;> try rfl
 case move x => show Option.map _ (e' x) = Option.map _ (e x); rw [hx x (by simp [Op.operands])]
 case assign x => show Option.map _ (e' x) = Option.map _ (e x); rw [hx x (by simp [Op.operands])]
 case pick c x y =>
  show qr e' c x y = qr e c x y
  unfold qr
  rw [hx c (by simp [Op.operands]), hx x (by simp [Op.operands]), hx y (by simp [Op.operands])]
 case nilCheck x =>
  show ju o' e' x = ju o e x
  have h1 : ju o' e' x = ju o' e x := by unfold ju; rw [hx x (by simp [Op.operands])]
  rw [h1]
  exact a7e (by simpa [Op.operands] using ho)
 case load t x =>
  show gi E o' e' t x = gi E o e t x
  have h1 : gi E o' e' t x = gi E o' e t x := by unfold gi; rw [hx x (by simp [Op.operands])]
  rw [h1]
  exact a6j (by simpa [Op.operands] using ho)
 case fieldAddr t x k =>
  show d9 E o' e' t x k = d9 E o e t x k
  have h1 : d9 E o' e' t x k = d9 E o' e t x k := by unfold d9; rw [hx x (by simp [Op.operands])]
  rw [h1]
  exact x7 (by simpa [Op.operands] using ho)
 case field t x k =>
  show n7 E e' t x k = n7 E e t x k
  unfold n7
  rw [hx x (by simp [Op.operands])]
 case indexAddr t x i =>
  show dl E o' e' t x i = dl E o e t x i
  have h1 : dl E o' e' t x i = dl E o' e t x i := by unfold dl gu; rw [hx x (by simp [Op.operands]), hx i (by simp [Op.operands])]
  rw [h1]
  refine xb fun k hk => ho k ?_
  simp only [bw, Op.operands, List.append_nil] at hk ⊢
  exact List.mem_append_left _ hk
 case lookup t x i cm =>
  show ff E o' e' t x i cm = ff E o e t x i cm
  have h1 : ff E o' e' t x i cm = ff E o' e t x i cm := by unfold ff; rw [hx x (by simp [Op.operands]), hx i (by simp [Op.operands])]
  rw [h1]
  refine a1t fun k hk => ho k ?_
  simp only [bw, Op.operands, List.append_nil] at hk ⊢
  exact List.mem_append_left _ hk
 case index t x i =>
  show nk E e' t x i = nk E e t x i
  unfold nk
  rw [hx x (by simp [Op.operands]), hx i (by simp [Op.operands])]
 case binOp op t x y ty =>
  have h1 : x5 E ex e' op t x y = x5 E ex e op t x y := by
   unfold x5
   rw [hx x (by simp [Op.operands]), hx y (by simp [Op.operands])]
  have h2 : l7 E e' op t x y = l7 E e op t x y := by
   unfold l7
   rw [hx x (by simp [Op.operands])]
  simp only [hq]
  rw [h1, h2]
 case unOp op t x =>
  show a1z ex e' op x = a1z ex e op x
  unfold a1z
  rw [hx x (by simp [Op.operands])]
 case convert src dst x =>
  show qg E ex e' src dst x = qg E ex e src dst x
  unfold qg
  rw [hx x (by simp [Op.operands])]
 case extract x i =>
  show kg e' x i = kg e x i
  unfold kg
  rw [hx x (by simp [Op.operands])]
 case slice t x lo hi mx =>
  have e0 := hx x (by simp [Op.operands])
  have e1 := gm (e := e) (e' := e') (x := lo) (fun y hy => hx y (by simp [Op.operands]; simp at hy; simp [hy]))
  have e2 := gm (e := e) (e' := e') (x := hi) (fun y hy => hx y (by simp [Op.operands]; simp at hy; simp [hy]))
  have e3 := gm (e := e) (e' := e') (x := mx) (fun y hy => hx y (by simp [Op.operands]; simp at hy; simp [hy]))
  have h1 : fw E e' t x lo hi mx = fw E e t x lo hi mx := by
   unfold fw
   rw [e0, e1, e2, e3]
  have h2 : wj E o' e' t x lo hi mx = wj E o e t x lo hi mx := by
   unfold wj
   rw [e0, e1, e2, e3]
   cases E t with
   | none => rfl
   | some ti =>
    dsimp only
    cases ti.k <;> try rfl
    rename_i el
    dsimp only
    cases E el with
    | none => rfl
    | some ei =>
     dsimp only
     cases ee e lo with
     | none => rfl
     | some l =>
      cases ee e hi with
      | none => rfl
      | some hh =>
       cases ee e mx with
       | none => rfl
       | some m =>
        dsimp only
        exact a2z (G := id) (F := fun o h => nx o ei.size l hh m h) (fun h hh => a5g hh) (l := (Op.slice t x lo hi mx).operands.toList) (by simp [Op.operands]) ho
  simp only [hq]
  rw [h1, h2]
 case makeFunc fn first caps =>
  show ru e' fn first.toList caps.toList = ru e fn first.toList caps.toList
  unfold ru
  rw [xn (l := caps.toList) (fun y hy => hx y (by simp [Op.operands]; simp at hy; exact .inr hy)), xp (l := caps.toList) (fun y hy => hx y (by simp [Op.operands]; simp at hy; exact .inr hy))]
 case build t parts =>
  show ni E e' t parts.toList = ni E e t parts.toList
  have hf : ∀ places cells, dw e' places cells parts.toList = dw e places cells parts.toList := fun places cells => qb fun x hm => hx x (by simpa [Op.operands] using hm)
  unfold ni
  simp only [hf]
 case call c =>
  simp only [hq]
  cases hc : c.callee with
  | value f => rfl
  | invoke r m => rfl
  | builtin b =>
   simp only [Op.operands, Call.operands, hc] at hx ho
   have h1 : ∀ x ∈ c.args.toList, e' x = e x := fun x hm => hx x (by simpa using hm)
   have h2 : ∀ k ∈ bw e c.args.toList, o' k = o k := fun k hk => ho k (by simpa using hk)
   dsimp only
   rw [zi h1, a19 h1 h2]
theorem agm {op : Op} {id : Nat} (hx : ∀ x ∈ op.operands, e' x = e x) : ha E e' id op = ha E e id op := by
 cases op <;> simp only [ha] <;> simp only [Op.operands] at hx
 case box t x => rw [hx x (by simp)]
 case buildSlice t n parts =>
  have hf : ∀ sz cells, ws e' sz n parts.toList cells = ws e sz n parts.toList cells := fun sz cells => by
   unfold ws
   exact qb fun x hm => hx x (by simpa using hm)
  simp only [hf]
 case makeSlice t l c => rw [hx l (by simp), hx c (by simp)]
theorem a3e {t : TypeId} {x y : Operand} (ho : ∀ k ∈ bw e [x, y], o' k = o k) : fy E o' e t x y = fy E o e t x y := by
 unfold fy
 cases E t with
 | none => rfl
 | some i =>
  cases hv : e y with
  | none => rfl
  | some rv =>
   cases rv with
   | tup l => rfl
   | v cv =>
    cases hex : e x with
    | none => rfl
    | some r =>
     cases r with
     | tup l => rfl
     | v cc =>
      cases cc with
      | agg l => rfl
      | one h =>
       cases h with
       | p x => cases x <;> rfl
       | ref id n => rfl
       | ptr id off => dsimp only; rw [ho id (cz hex (by simp) id (by simp [HR.ids, HC.ids, HV.ids]))]
       | eptr id n r j => dsimp only; rw [ho id (cz hex (by simp) id (by simp [HR.ids, HC.ids, HV.ids]))]
       | win id n i m => rfl
       | clo g k caps => rfl
       | row id i k => rfl
       | rptr id i k r j => dsimp only; rw [ho id (cz hex (by simp) id (by simp [HR.ids, HC.ids, HV.ids]))]
       | pin id n ad cap => rfl
theorem a5x {h : HV} {kk : KK} {m : MK} {y : PV} (ho : ∀ k ∈ h.ids, o' k = o k) : uz o' kk m y h = uz o kk m y h := by
 cases h with
 | ref id n => simp only [uz]; rw [ho id (by simp [HV.ids])]
 | _ => rfl
theorem a7l {t : TypeId} {x i v : Operand} (ho : ∀ k ∈ bw e [x], o' k = o k) : kx E o' e t x i v = kx E o e t x i v := by
 unfold kx
 cases E t with
 | none => rfl
 | some ii =>
  dsimp only
  cases ii.k <;> try rfl
  rename_i kt et
  dsimp only
  cases E kt with
  | none => rfl
  | some ki =>
   dsimp only
   cases hex : e x with
   | none => rfl
   | some r =>
    cases r with
    | tup l => rfl
    | v cc =>
     cases cc with
     | agg l => rfl
     | one h =>
      dsimp only
      have := fun kk m y => a5x (o := o) (o' := o') (h := h) (kk := kk) (m := m) (y := y) (fun k hk => ho k (cz hex (by simp) k hk))
      simp only [this]
theorem a62 {op : Op} (hx : ∀ x ∈ op.operands, e' x = e x) (ho : ∀ k ∈ bw e op.operands.toList, o' k = o k) : hs E o' e' op = hs E o e op := by
 cases op <;> try rfl
 case mapUpdate t x i v =>
  show kx E o' e' t x i v = kx E o e t x i v
  have h1 : kx E o' e' t x i v = kx E o' e t x i v := by unfold kx; rw [hx x (by simp [Op.operands]), hx i (by simp [Op.operands]), hx v (by simp [Op.operands])]
  rw [h1]
  refine a7l fun k hk => ho k ?_
  simp only [bw, Op.operands, List.append_nil] at hk ⊢
  exact List.mem_append_left _ hk
 case store t addr v =>
  show fy E o' e' t addr v = fy E o e t addr v
  have h1 : fy E o' e' t addr v = fy E o' e t addr v := by unfold fy; rw [hx addr (by simp [Op.operands]), hx v (by simp [Op.operands])]
  rw [h1]
  exact a3e (by simpa [Op.operands] using ho)
theorem xi {id : Nat} {h : HV} (ho : ∀ k ∈ h.ids, o' k = o k) : mr o' id h = mr o id h := by
 cases h with
 | p x =>
  cases x with
  | raw v =>
   cases v with
   | slice a n c => cases n <;> rfl
   | _ => rfl
  | _ => rfl
 | ref id' n => simp only [mr]; rw [ho id' (by simp [HV.ids])]
 | _ => rfl
theorem pg {id n : Nat} {wb : Bool} {el : TypeId} {y : HV} (hid : o' id = o id) (ho : ∀ k ∈ y.ids, o' k = o k) : jr E o' id n wb el y = jr E o id n wb el y := by
 simp only [jr]
 rw [hid, xi ho]
theorem zd {id : Nat} {h : HV} (ho : ∀ k ∈ h.ids, o' k = o k) : vl o' id h = vl o id h := by
 simp only [vl]
 rw [xi ho]
 cases h with
 | ref id' n => simp only; rw [ho id' (by simp [HV.ids])]
 | _ => rfl
theorem a6k {id n : Nat} {el : TypeId} {y : HV} (hid : o' id = o id) (ho : ∀ k ∈ y.ids, o' k = o k) : nr E o' id n el y = nr E o id n el y := by
 simp only [nr]
 rw [hid, zd ho]
theorem aal {id n : Nat} {el : TypeId} {y : HV} (hid : o' id = o id) (ho : ∀ k ∈ y.ids, o' k = o k) : za E o' id n el y = za E o id n el y := by
 simp only [za]
 rw [hid, zd ho]
theorem a7q {el : TypeId} {id n i k : Nat} {y : HV} (hid : o' id = o id) : sy E o' el id n i k y = sy E o el id n i k y := by
 unfold sy
 rw [hid]
theorem aao {h : HV} {z : List Value} {n : Nat} (ho : ∀ k ∈ h.ids, o' k = o k) : a1w o' z n h = a1w o z n h := by
 cases h with
 | win id n i m => simp only [a1w]; rw [ho id (by simp [HV.ids])]
 | _ => rfl
theorem a7k {id : Nat} {wb : Bool} {el : TypeId} {hy hx : HV} (h1 : ∀ k ∈ hx.ids, o' k = o k) (h2 : ∀ k ∈ hy.ids, o' k = o k) : mt E o' id wb el hy hx = mt E o id wb el hy hx := by
 cases hx with
 | win id1 n i k =>
  simp only [mt]
  exact a7q (h1 id1 (by simp [HV.ids]))
 | pin id1 n ad cap =>
  simp only [mt]
  rw [pg (o := o) (o' := o') (h1 id1 (by simp [HV.ids])) h2]
 | ref id1 n =>
  simp only [mt]
  rw [pg (o := o) (o' := o') (h1 id1 (by simp [HV.ids])) h2, a6k (o := o) (o' := o') (h1 id1 (by simp [HV.ids])) h2, aal (o := o) (o' := o') (h1 id1 (by simp [HV.ids])) h2]
 | p px =>
  cases px with
  | sl n sz cl f =>
   cases cl with
   | false => rfl
   | true =>
    simp only [mt]
    cases E el with
    | none => rfl
    | some ei =>
     dsimp only
     rw [pg (o := fun k => if k = id then some (ae.arr false ei.size el n f) else o k) (o' := fun k => if k = id then some (ae.arr false ei.size el n f) else o' k) (by simp) (fun k hk => by
      try dsimp only
      split
      · rfl
      · exact h2 k hk)]
  | _ => rfl
 | _ => rfl
theorem a73 {id : Nat} {wb : Bool} {t : TypeId} {x y : Option HR} (hx : ∀ r, x = some r → ∀ k ∈ r.ids, o' k = o k) (hy : ∀ r, y = some r → ∀ k ∈ r.ids, o' k = o k) :
 x6 E o' id wb t x y = x6 E o id wb t x y := by
 unfold x6
 cases E t with
 | none => rfl
 | some i =>
  dsimp only
  cases i.k <;> try rfl
  rename_i el
  cases x with
  | none => rfl
  | some rx =>
   cases rx with
   | tup l => rfl
   | v cx =>
    cases cx with
    | agg l => rfl
    | one hxv =>
     cases y with
     | none => rfl
     | some ry =>
      cases ry with
      | tup l => rfl
      | v cy =>
       cases cy with
       | agg l => rfl
       | one hyv => exact a7k (hx _ rfl) (hy _ rfl)
theorem adq {op : Op} {id : Nat} {wb : Bool} (hx : ∀ x ∈ op.operands, e' x = e x) (ho : ∀ k ∈ bw e op.operands.toList, o' k = o k) : hap E o' e' id wb op = hap E o e id wb op := by
 cases op <;> try rfl
 case call c =>
  unfold hap
  dsimp only
  split
  · rename_i hc
    simp only [Op.operands, Call.operands, hc] at hx ho
    have h1 : ∀ x ∈ c.args.toList, e' x = e x := fun x hm => hx x (by simpa using hm)
    have h2 : ∀ k ∈ bw e c.args.toList, o' k = o k := fun k hk => ho k (by simpa using hk)
    generalize c.args.toList = l at h1 h2
    unfold vv
    split
    · rename_i x y t t' _
      split
      · rw [h1 x (by simp), h1 y (by simp)]
        exact a73 (fun r hr k hk => h2 k (cz hr (by simp) k hk)) (fun r hr k hk => h2 k (cz hr (by simp) k hk))
      · rfl
    · rfl
  · rename_i hc
    simp only [Op.operands, Call.operands, hc] at hx ho
    have h1 : ∀ x ∈ c.args.toList, e' x = e x := fun x hm => hx x (by simpa using hm)
    have h2 : ∀ k ∈ bw e c.args.toList, o' k = o k := fun k hk => ho k (by simpa using hk)
    generalize c.args.toList = l at h1 h2
    unfold oc
    split
    · rename_i x t _
      rw [h1 x (by simp)]
      cases E t with
      | none => rfl
      | some ti =>
       dsimp only
       cases ti.k <;> try rfl
       rename_i el
       dsimp only
       cases E el with
       | none => rfl
       | some ei =>
        dsimp only
        cases ei.zero with
        | none => rfl
        | some z =>
         dsimp only
         split
         · cases hex : e x with
           | none => rfl
           | some r =>
            cases r with
            | tup l => rfl
            | v cc =>
             cases cc with
             | agg l => rfl
             | one hv => exact aao fun k hk => h2 k (cz hex (by simp) k hk)
         · rfl
    · rfl
  · rfl
theorem xr {h : HV} (ho : ∀ k ∈ h.ids, o' k = o k) : sk o' h = sk o h := by
 cases h with
 | ref id n => simp only [sk]; rw [ho id (by simp [HV.ids])]
 | _ => rfl
end
end Go.Hx
end
