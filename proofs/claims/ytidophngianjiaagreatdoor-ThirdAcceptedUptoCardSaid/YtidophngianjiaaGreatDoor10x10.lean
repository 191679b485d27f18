/- A part of the proof: Hx11. -/
import Derived.Test.YtidophngianjiaaGreatDoor10x09
set_option linter.all false
section
namespace Go.Hx
open Go.RowKit
section
variable {E : Env} {ex : Bool} {o o' : b9} {e e' : Ev}
theorem ej {x : Operand} {r : HR} (hx : e x = some r) : ∀ {l : List Operand}, x ∈ l → ∀ k ∈ r.ids, k ∈ d3 e l
 | y :: l, hm, k, hk => by
  rcases List.mem_cons.1 hm with rfl | hm
  · simp only [d3, hx]; exact List.mem_append_left _ hk
  · simp only [d3]; exact List.mem_append_right _ (ej hx hm k hk)
theorem mo : ∀ {l : List Operand}, (∀ x ∈ l, e' x = e x) → d3 e' l = d3 e l
 | [], _ => rfl
 | x :: l, h => by
  simp only [d3]
  rw [h x (by simp), mo fun y hy => h y (by simp [hy])]
theorem ub {h : HV} (ho : ∀ k ∈ h.ids, o' k = o k) : tgt o' h = tgt o h := by
 cases h with
 | p x => cases x <;> rfl
 | ref id n => rfl
 | ptr id off => simp only [tgt]; rw [ho id (by simp [HV.ids])]
 | eptr id n i j => simp only [tgt]; rw [ho id (by simp [HV.ids])]
 | win id n i m => rfl
 | clo g k caps => rfl
 | row id i k => rfl
 | rptr id i k r j => simp only [tgt]; rw [ho id (by simp [HV.ids])]
 | pin id n ad cap => rfl
theorem vc {places : List (Nat × Nat)} : ∀ {parts : List (Nat × Operand)} {cells : List HV}, (∀ x ∈ parts.map (·.2), e' x = e x) → fz e' places cells parts = fz e places cells parts
 | [], _, _ => rfl
 | (i, x) :: r, cells, h => by
  have hx := h x (by simp)
  have ih : ∀ cells, fz e' places cells r = fz e places cells r := fun cells => vc fun y hy => h y (by simp at hy ⊢; exact .inr hy)
  simp only [fz, hx, ih]
theorem a2n : ∀ {l : List Operand}, (∀ x ∈ l, e' x = e x) → ue e' l = ue e l
 | [], _ => rfl
 | x :: l, h => by
  simp only [ue]
  rw [h x (by simp), a2n fun y hy => h y (by simp [hy])]
theorem a2d : ∀ {l : List Operand}, (∀ x ∈ l, e' x = e x) → ua e' l = ua e l
 | [], _ => rfl
 | x :: l, h => by
  simp only [ua]
  rw [h x (by simp), a2d fun y hy => h y (by simp [hy])]
theorem jy {x : Option Operand} (h : ∀ y ∈ x.toList, e' y = e y) : gk e' x = gk e x := by
 cases x with
 | none => rfl
 | some y => simp only [gk]; rw [h y (by simp)]
theorem a4n {b : Builtin} {args : List Operand} {tys : List TypeId} (h : ∀ x ∈ args, e' x = e x) : o0 E e' b args tys = o0 E e b args tys := by
 unfold o0
 split
 · rename_i x t r
   rw [h x (by simp)]
 · rename_i x y
   rw [h x (by simp), h y (by simp)]
 · rename_i x y
   rw [h x (by simp), h y (by simp)]
 · rfl
theorem agr {h : HV} (ho : ∀ k ∈ h.ids, o' k = o k) : a0t o' h = a0t o h := by
 cases h with
 | ref id n => simp only [a0t]; rw [ho id (by simp [HV.ids])]
 | win id n i m => simp only [a0t]; rw [ho id (by simp [HV.ids])]
 | row id i k => simp only [a0t]; rw [ho id (by simp [HV.ids])]
 | _ => rfl
theorem ah0 {h : HV} {n : Nat} {i : Int} (ho : ∀ k ∈ h.ids, o' k = o k) : a3d o' n i h = a3d o n i h := by
 cases h with
 | ref id n => simp only [a3d]; rw [ho id (by simp [HV.ids])]
 | win id n i m => simp only [a3d]; rw [ho id (by simp [HV.ids])]
 | row id i k => simp only [a3d]; rw [ho id (by simp [HV.ids])]
 | p x => cases x <;> rfl
 | _ => rfl
theorem adr {h : HV} {n : Nat} {x y z : Option Int} (ho : ∀ k ∈ h.ids, o' k = o k) : t6 o' n x y z h = t6 o n x y z h := by
 cases h with
 | ref id n => simp only [t6]; rw [ho id (by simp [HV.ids])]
 | win id n i m => simp only [t6]; rw [ho id (by simp [HV.ids])]
 | _ => rfl
theorem a8j {x : Operand} {l : List Operand} {F : b9 → HV → Option Out} {α : Type} {d : α} {G : Option Out → α} (hF : ∀ h : HV, (∀ k ∈ h.ids, o' k = o k) → F o' h = F o h) (hl : x ∈ l) (ho : ∀ k ∈ d3 e l, o' k = o k) :
 (match e x with | some (.v (.one h)) => G (F o' h) | _ => d) = (match e x with | some (.v (.one h)) => G (F o h) | _ => d) := by
 cases hex : e x with
 | none => rfl
 | some r =>
  cases r with
  | tup l => rfl
  | v cc =>
   cases cc with
   | agg l => rfl
   | one h =>
    dsimp only
    rw [hF h fun k hk => ho k (ej hex hl k hk)]
theorem a6c {b : Builtin} {args : List Operand} {tys : List TypeId} (h : ∀ x ∈ args, e' x = e x) (ho : ∀ k ∈ d3 e args, o' k = o k) : pl E o' e' b args tys = pl E o e b args tys := by
 unfold pl
 split
 · rename_i x t r
   rw [h x (by simp)]
   cases E t with
   | none => rfl
   | some ti =>
    dsimp only
    cases ti.k <;> try rfl
    exact a8j (G := id) (F := a0t) (fun h hh => agr hh) (by simp) ho
 · rfl
theorem adt {x : Operand} (ho : ∀ k ∈ d3 e [x], o' k = o k) : n5 o' e x = n5 o e x := by
 unfold n5
 cases hex : e x with
 | none => rfl
 | some r =>
  cases r with
  | tup l => rfl
  | v cc =>
   cases cc with
   | agg l => rfl
   | one h =>
    have := ub (o := o) (o' := o') (h := h) (fun k hk => ho k (ej hex (by simp) k hk))
    cases h with
    | p x => cases x <;> rfl
    | ref id n => rfl
    | ptr id off => dsimp only; rw [this]
    | eptr id n i j => dsimp only; rw [this]
    | win id n i m => rfl
    | clo g k caps => rfl
    | row id i k => rfl
    | rptr id i k r j => dsimp only; rw [this]
    | pin id n ad cap => rfl
theorem ado {t : TypeId} {x : Operand} (ho : ∀ k ∈ d3 e [x], o' k = o k) : jz E o' e t x = jz E o e t x := by
 unfold jz
 cases E t with
 | none => rfl
 | some i =>
  dsimp only
  cases hex : e x with
  | none => rfl
  | some r =>
   cases r with
   | tup l => rfl
   | v cc =>
    cases cc with
    | agg l => rfl
    | one h =>
     dsimp only
     rw [ub (o := o) (o' := o') (h := h) (fun k hk => ho k (ej hex (by simp) k hk))]
theorem a26 {t : TypeId} {x : Operand} {k : Nat} (ho : ∀ k ∈ d3 e [x], o' k = o k) : f3 E o' e t x k = f3 E o e t x k := by
 unfold f3
 cases E t with
 | none => rfl
 | some i =>
  dsimp only
  cases i.k <;> try rfl
  rename_i fs
  dsimp only
  cases fs[k]? with
  | none => rfl
  | some q =>
   obtain ⟨off, ft, bl⟩ := q
   dsimp only
   cases E ft with
   | none => rfl
   | some fi =>
    dsimp only
    cases hex : e x with
    | none => rfl
    | some r =>
     cases r with
     | tup l => rfl
     | v cc =>
      cases cc with
      | agg l => rfl
      | one h =>
       dsimp only
       rw [ub (o := o) (o' := o') (h := h) (fun k hk => ho k (ej hex (by simp) k hk))]
theorem a38 {len : Nat} {el : TypeId} {x i : Operand} (ho : ∀ k ∈ d3 e [x], o' k = o k) : ko E o' e len el x i = ko E o e len el x i := by
 unfold ko
 cases E el with
 | none => rfl
 | some ei =>
  dsimp only
  cases hex : e x with
  | none => rfl
  | some r =>
   cases r with
   | tup l => rfl
   | v cc =>
    cases cc with
    | agg l => rfl
    | one h =>
     dsimp only
     rw [ub (o := o) (o' := o') (h := h) (fun k hk => ho k (ej hex (by simp) k hk))]
theorem a21 {t : TypeId} {x i : Operand} (ho : ∀ k ∈ d3 e [x], o' k = o k) : fp E o' e t x i = fp E o e t x i := by
 unfold fp
 cases E t with
 | none => rfl
 | some ii =>
  dsimp only
  cases ii.k <;> try rfl
  case array len el => exact a38 ho
  rename_i el
  dsimp only
  cases E el with
  | none => rfl
  | some ei =>
   dsimp only
   cases hex : e x with
   | none => rfl
   | some r =>
    cases r with
    | tup l => rfl
    | v cc =>
     cases cc with
     | agg l => rfl
     | one h =>
      dsimp only
      have := fun iv => ah0 (o := o) (o' := o') (h := h) (n := ei.size) (i := iv) (fun k hk => ho k (ej hex (by simp) k hk))
      simp only [this]
theorem ae7 {h : HV} {kk : KK} {m : MK} {z : Value} {cm : Bool} (ho : ∀ k ∈ h.ids, o' k = o k) : a4z o' kk m z cm h = a4z o kk m z cm h := by
 cases h with
 | ref id n => simp only [a4z]; rw [ho id (by simp [HV.ids])]
 | _ => rfl
theorem a6j {t : TypeId} {x i : Operand} {cm : Bool} (ho : ∀ k ∈ d3 e [x], o' k = o k) : j4 E o' e t x i cm = j4 E o e t x i cm := by
 unfold j4
 cases E t with
 | none => rfl
 | some ii =>
  dsimp only
  cases ii.k <;> try rfl
  rename_i kt et
  dsimp only
  cases ai5 E kt et with
  | none => rfl
  | some q =>
   obtain ⟨kk, z⟩ := q
   dsimp only
   cases hex : e x with
   | none => rfl
   | some r =>
    cases r with
    | tup l => rfl
    | v cc =>
     cases cc with
     | agg l => rfl
     | one h =>
      dsimp only
      have := fun m => ae7 (o := o) (o' := o') (h := h) (kk := kk) (m := m) (z := z) (cm := cm) (fun k hk => ho k (ej hex (by simp) k hk))
      simp only [this]
theorem anm {op : Op} (hx : ∀ x ∈ op.operands, e' x = e x) (ho : ∀ k ∈ d3 e op.operands.toList, o' k = o k) : hq E ex o' e' op = hq E ex o e op := by
 cases op <;> try rfl
 case move x => show Option.map _ (e' x) = Option.map _ (e x); rw [hx x (by simp [Op.operands])]
 case assign x => show Option.map _ (e' x) = Option.map _ (e x); rw [hx x (by simp [Op.operands])]
 case pick c x y =>
  show wc e' c x y = wc e c x y
  unfold wc
  rw [hx c (by simp [Op.operands]), hx x (by simp [Op.operands]), hx y (by simp [Op.operands])]
 case nilCheck x =>
  show n5 o' e' x = n5 o e x
  have h1 : n5 o' e' x = n5 o' e x := by unfold n5; rw [hx x (by simp [Op.operands])]
  rw [h1]
  exact adt (by simpa [Op.operands] using ho)
 case load t x =>
  show jz E o' e' t x = jz E o e t x
  have h1 : jz E o' e' t x = jz E o' e t x := by unfold jz; rw [hx x (by simp [Op.operands])]
  rw [h1]
  exact ado (by simpa [Op.operands] using ho)
 case fieldAddr t x k =>
  show f3 E o' e' t x k = f3 E o e t x k
  have h1 : f3 E o' e' t x k = f3 E o' e t x k := by unfold f3; rw [hx x (by simp [Op.operands])]
  rw [h1]
  exact a26 (by simpa [Op.operands] using ho)
 case field t x k =>
  show sk E e' t x k = sk E e t x k
  unfold sk
  rw [hx x (by simp [Op.operands])]
 case indexAddr t x i =>
  show fp E o' e' t x i = fp E o e t x i
  have h1 : fp E o' e' t x i = fp E o' e t x i := by unfold fp ko; rw [hx x (by simp [Op.operands]), hx i (by simp [Op.operands])]
  rw [h1]
  refine a21 fun k hk => ho k ?_
  simp only [d3, Op.operands, List.append_nil] at hk ⊢
  exact List.mem_append_left _ hk
 case lookup t x i cm =>
  show j4 E o' e' t x i cm = j4 E o e t x i cm
  have h1 : j4 E o' e' t x i cm = j4 E o' e t x i cm := by unfold j4; rw [hx x (by simp [Op.operands]), hx i (by simp [Op.operands])]
  rw [h1]
  refine a6j fun k hk => ho k ?_
  simp only [d3, Op.operands, List.append_nil] at hk ⊢
  exact List.mem_append_left _ hk
 case index t x i =>
  show sn E e' t x i = sn E e t x i
  unfold sn
  rw [hx x (by simp [Op.operands]), hx i (by simp [Op.operands])]
 case binOp op t x y ty =>
  have h1 : a1z E ex e' op t x y = a1z E ex e op t x y := by
   unfold a1z
   rw [hx x (by simp [Op.operands]), hx y (by simp [Op.operands])]
  have h2 : oz E e' op t x y = oz E e op t x y := by
   unfold oz
   rw [hx x (by simp [Op.operands])]
  simp only [hq]
  rw [h1, h2]
 case unOp op t x =>
  show a6r ex e' op x = a6r ex e op x
  unfold a6r
  rw [hx x (by simp [Op.operands])]
 case convert src dst x =>
  show vz E ex e' src dst x = vz E ex e src dst x
  unfold vz
  rw [hx x (by simp [Op.operands])]
 case extract x i =>
  show nu e' x i = nu e x i
  unfold nu
  rw [hx x (by simp [Op.operands])]
 case slice t x lo hi mx =>
  have e0 := hx x (by simp [Op.operands])
  have e1 := jy (e := e) (e' := e') (x := lo) (fun y hy => hx y (by simp [Op.operands]; simp at hy; simp [hy]))
  have e2 := jy (e := e) (e' := e') (x := hi) (fun y hy => hx y (by simp [Op.operands]; simp at hy; simp [hy]))
  have e3 := jy (e := e) (e' := e') (x := mx) (fun y hy => hx y (by simp [Op.operands]; simp at hy; simp [hy]))
  have h1 : jd E e' t x lo hi mx = jd E e t x lo hi mx := by
   unfold jd
   rw [e0, e1, e2, e3]
  have h2 : a1q E o' e' t x lo hi mx = a1q E o e t x lo hi mx := by
   unfold a1q
   rw [e0, e1, e2, e3]
   cases E t with
   | none => rfl
   | some ti =>
    dsimp only
    cases ti.k <;> try rfl
    rename_i el
    dsimp only
    cases E el with
    | none => rfl
    | some ei =>
     dsimp only
     cases gk e lo with
     | none => rfl
     | some l =>
      cases gk e hi with
      | none => rfl
      | some hh =>
       cases gk e mx with
       | none => rfl
       | some m =>
        dsimp only
        exact a8j (G := id) (F := fun o h => t6 o ei.size l hh m h) (fun h hh => adr hh) (l := (Op.slice t x lo hi mx).operands.toList) (by simp [Op.operands]) ho
  simp only [hq]
  rw [h1, h2]
 case makeFunc fn first caps =>
  show vw e' fn first.toList caps.toList = vw e fn first.toList caps.toList
  unfold vw
  rw [a2n (l := caps.toList) (fun y hy => hx y (by simp [Op.operands]; simp at hy; exact .inr hy)), a2d (l := caps.toList) (fun y hy => hx y (by simp [Op.operands]; simp at hy; exact .inr hy))]
 case build t parts =>
  show sh E e' t parts.toList = sh E e t parts.toList
  have hf : ∀ places cells, fz e' places cells parts.toList = fz e places cells parts.toList := fun places cells => vc fun x hm => hx x (by simpa [Op.operands] using hm)
  unfold sh
  simp only [hf]
 case call c =>
  simp only [hq]
  cases hc : c.callee with
  | value f => rfl
  | invoke r m => rfl
  | builtin b =>
   simp only [Op.operands, Call.operands, hc] at hx ho
   have h1 : ∀ x ∈ c.args.toList, e' x = e x := fun x hm => hx x (by simpa using hm)
   have h2 : ∀ k ∈ d3 e c.args.toList, o' k = o k := fun k hk => ho k (by simpa using hk)
   dsimp only
   rw [a4n h1, a6c h1 h2]
theorem api {op : Op} {id : Nat} (hx : ∀ x ∈ op.operands, e' x = e x) : ha E e' id op = ha E e id op := by
 cases op <;> simp only [ha] <;> simp only [Op.operands] at hx
 case box t x => rw [hx x (by simp)]
 case buildSlice t n parts =>
  have hf : ∀ sz cells, a15 e' sz n parts.toList cells = a15 e sz n parts.toList cells := fun sz cells => by
   unfold a15
   exact vc fun x hm => hx x (by simpa using hm)
  simp only [hf]
 case makeSlice t l c => rw [hx l (by simp), hx c (by simp)]
theorem a9v {t : TypeId} {x y : Operand} (ho : ∀ k ∈ d3 e [x, y], o' k = o k) : jf E o' e t x y = jf E o e t x y := by
 unfold jf
 cases E t with
 | none => rfl
 | some i =>
  cases hv : e y with
  | none => rfl
  | some rv =>
   cases rv with
   | tup l => rfl
   | v cv =>
    cases hex : e x with
    | none => rfl
    | some r =>
     cases r with
     | tup l => rfl
     | v cc =>
      cases cc with
      | agg l => rfl
      | one h =>
       cases h with
       | p x => cases x <;> rfl
       | ref id n => rfl
       | ptr id off => dsimp only; rw [ho id (ej hex (by simp) id (by simp [HR.ids, HC.ids, HV.ids]))]
       | eptr id n r j => dsimp only; rw [ho id (ej hex (by simp) id (by simp [HR.ids, HC.ids, HV.ids]))]
       | win id n i m => rfl
       | clo g k caps => rfl
       | row id i k => rfl
       | rptr id i k r j => dsimp only; rw [ho id (ej hex (by simp) id (by simp [HR.ids, HC.ids, HV.ids]))]
       | pin id n ad cap => rfl
theorem ac2 {h : HV} {kk : KK} {m : MK} {y : PV} (ho : ∀ k ∈ h.ids, o' k = o k) : zb o' kk m y h = zb o kk m y h := by
 cases h with
 | ref id n => simp only [zb]; rw [ho id (by simp [HV.ids])]
 | _ => rfl
theorem ae9 {t : TypeId} {x i v : Operand} (ho : ∀ k ∈ d3 e [x], o' k = o k) : oe E o' e t x i v = oe E o e t x i v := by
 unfold oe
 cases E t with
 | none => rfl
 | some ii =>
  dsimp only
  cases ii.k <;> try rfl
  rename_i kt et
  dsimp only
  cases E kt with
  | none => rfl
  | some ki =>
   dsimp only
   cases hex : e x with
   | none => rfl
   | some r =>
    cases r with
    | tup l => rfl
    | v cc =>
     cases cc with
     | agg l => rfl
     | one h =>
      dsimp only
      have := fun kk m y => ac2 (o := o) (o' := o') (h := h) (kk := kk) (m := m) (y := y) (fun k hk => ho k (ej hex (by simp) k hk))
      simp only [this]
theorem abk {op : Op} (hx : ∀ x ∈ op.operands, e' x = e x) (ho : ∀ k ∈ d3 e op.operands.toList, o' k = o k) : hs E o' e' op = hs E o e op := by
 cases op <;> try rfl
 case mapUpdate t x i v =>
  show oe E o' e' t x i v = oe E o e t x i v
  have h1 : oe E o' e' t x i v = oe E o' e t x i v := by unfold oe; rw [hx x (by simp [Op.operands]), hx i (by simp [Op.operands]), hx v (by simp [Op.operands])]
  rw [h1]
  refine ae9 fun k hk => ho k ?_
  simp only [d3, Op.operands, List.append_nil] at hk ⊢
  exact List.mem_append_left _ hk
 case store t addr v =>
  show jf E o' e' t addr v = jf E o e t addr v
  have h1 : jf E o' e' t addr v = jf E o' e t addr v := by unfold jf; rw [hx addr (by simp [Op.operands]), hx v (by simp [Op.operands])]
  rw [h1]
  exact a9v (by simpa [Op.operands] using ho)
theorem a2k {id : Nat} {h : HV} (ho : ∀ k ∈ h.ids, o' k = o k) : rh o' id h = rh o id h := by
 cases h with
 | p x =>
  cases x with
  | raw v =>
   cases v with
   | slice a n c => cases n <;> rfl
   | _ => rfl
  | _ => rfl
 | ref id' n => simp only [rh]; rw [ho id' (by simp [HV.ids])]
 | _ => rfl
theorem v8 {id n : Nat} {wb : Bool} {el : TypeId} {y : HV} (hid : o' id = o id) (ho : ∀ k ∈ y.ids, o' k = o k) : n7 E o' id n wb el y = n7 E o id n wb el y := by
 simp only [n7]
 rw [hid, a2k ho]
theorem a62 {id : Nat} {h : HV} (ho : ∀ k ∈ h.ids, o' k = o k) : z6 o' id h = z6 o id h := by
 simp only [z6]
 rw [a2k ho]
 cases h with
 | ref id' n => simp only; rw [ho id' (by simp [HV.ids])]
 | _ => rfl
theorem adn {id n : Nat} {el : TypeId} {y : HV} (hid : o' id = o id) (ho : ∀ k ∈ y.ids, o' k = o k) : t7 E o' id n el y = t7 E o id n el y := by
 simp only [t7]
 rw [hid, a62 ho]
theorem ai4 {id n : Nat} {el : TypeId} {y : HV} (hid : o' id = o id) (ho : ∀ k ∈ y.ids, o' k = o k) : a3b E o' id n el y = a3b E o id n el y := by
 simp only [a3b]
 rw [hid, a62 ho]
theorem adu {el : TypeId} {id n i k : Nat} {y : HV} (hid : o' id = o id) : ym E o' el id n i k y = ym E o el id n i k y := by
 unfold ym
 rw [hid]
theorem ahz {h : HV} {z : List Value} {n : Nat} (ho : ∀ k ∈ h.ids, o' k = o k) : a86 o' z n h = a86 o z n h := by
 cases h with
 | win id n i m => simp only [a86]; rw [ho id (by simp [HV.ids])]
 | _ => rfl
theorem adz {id : Nat} {wb : Bool} {el : TypeId} {hy hx : HV} (h1 : ∀ k ∈ hx.ids, o' k = o k) (h2 : ∀ k ∈ hy.ids, o' k = o k) : rg E o' id wb el hy hx = rg E o id wb el hy hx := by
 cases hx with
 | win id1 n i k =>
  simp only [rg]
  exact adu (h1 id1 (by simp [HV.ids]))
 | pin id1 n ad cap =>
  simp only [rg]
  rw [v8 (o := o) (o' := o') (h1 id1 (by simp [HV.ids])) h2]
 | ref id1 n =>
  simp only [rg]
  rw [v8 (o := o) (o' := o') (h1 id1 (by simp [HV.ids])) h2, adn (o := o) (o' := o') (h1 id1 (by simp [HV.ids])) h2, ai4 (o := o) (o' := o') (h1 id1 (by simp [HV.ids])) h2]
 | p px =>
  cases px with
  | sl n sz cl f =>
   cases cl with
   | false => rfl
   | true =>
    simp only [rg]
    cases E el with
    | none => rfl
    | some ei =>
     dsimp only
     rw [v8 (o := fun k => if k = id then some (aj.arr false ei.size el n f) else o k) (o' := fun k => if k = id then some (aj.arr false ei.size el n f) else o' k) (by simp) (fun k hk => by
      try dsimp only
      split
      · rfl
      · exact h2 k hk)]
  | _ => rfl
 | _ => rfl
theorem ady {id : Nat} {wb : Bool} {t : TypeId} {x y : Option HR} (hx : ∀ r, x = some r → ∀ k ∈ r.ids, o' k = o k) (hy : ∀ r, y = some r → ∀ k ∈ r.ids, o' k = o k) :
 a1j E o' id wb t x y = a1j E o id wb t x y := by
 unfold a1j
 cases E t with
 | none => rfl
 | some i =>
  dsimp only
  cases i.k <;> try rfl
  rename_i el
  cases x with
  | none => rfl
  | some rx =>
   cases rx with
   | tup l => rfl
   | v cx =>
    cases cx with
    | agg l => rfl
    | one hxv =>
     cases y with
     | none => rfl
     | some ry =>
      cases ry with
      | tup l => rfl
      | v cy =>
       cases cy with
       | agg l => rfl
       | one hyv => exact adz (hx _ rfl) (hy _ rfl)
theorem ak4 {op : Op} {id : Nat} {wb : Bool} (hx : ∀ x ∈ op.operands, e' x = e x) (ho : ∀ k ∈ d3 e op.operands.toList, o' k = o k) : hap E o' e' id wb op = hap E o e id wb op := by
 cases op <;> try rfl
 case call c =>
  unfold hap
  dsimp only
  split
  · rename_i hc
    simp only [Op.operands, Call.operands, hc] at hx ho
    have h1 : ∀ x ∈ c.args.toList, e' x = e x := fun x hm => hx x (by simpa using hm)
    have h2 : ∀ k ∈ d3 e c.args.toList, o' k = o k := fun k hk => ho k (by simpa using hk)
    generalize c.args.toList = l at h1 h2
    unfold a1h
    split
    · rename_i x y t t' _
      split
      · rw [h1 x (by simp), h1 y (by simp)]
        exact ady (fun r hr k hk => h2 k (ej hr (by simp) k hk)) (fun r hr k hk => h2 k (ej hr (by simp) k hk))
      · rfl
    · rfl
  · rename_i hc
    simp only [Op.operands, Call.operands, hc] at hx ho
    have h1 : ∀ x ∈ c.args.toList, e' x = e x := fun x hm => hx x (by simpa using hm)
    have h2 : ∀ k ∈ d3 e c.args.toList, o' k = o k := fun k hk => ho k (by simpa using hk)
    generalize c.args.toList = l at h1 h2
    unfold tf
    split
    · rename_i x t _
      rw [h1 x (by simp)]
      cases E t with
      | none => rfl
      | some ti =>
       dsimp only
       cases ti.k <;> try rfl
       rename_i el
       dsimp only
       cases E el with
       | none => rfl
       | some ei =>
        dsimp only
        cases ei.zero with
        | none => rfl
        | some z =>
         dsimp only
         split
         · cases hex : e x with
           | none => rfl
           | some r =>
            cases r with
            | tup l => rfl
            | v cc =>
             cases cc with
             | agg l => rfl
             | one hv => exact ahz fun k hk => h2 k (ej hex (by simp) k hk)
         · rfl
    · rfl
  · rfl
theorem a2i {h : HV} (ho : ∀ k ∈ h.ids, o' k = o k) : xn o' h = xn o h := by
 cases h with
 | ref id n => simp only [xn]; rw [ho id (by simp [HV.ids])]
 | _ => rfl
end
end Go.Hx
end
