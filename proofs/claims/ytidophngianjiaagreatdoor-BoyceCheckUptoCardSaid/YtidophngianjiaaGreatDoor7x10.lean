/- A part of the proof: Hx11. -/
import Derived.Test.YtidophngianjiaaGreatDoor7x09
set_option linter.all false
section
namespace Go.Hx
open Go.RowKit
section
variable {E : Env} {ex : Bool} {o o' : b8} {e e' : Ev}
theorem dx {x : Operand} {r : HR} (hx : e x = some r) : ∀ {l : List Operand}, x ∈ l → ∀ k ∈ r.ids, k ∈ cq e l
 | y :: l, hm, k, hk => by
  rcases List.mem_cons.1 hm with rfl | hm
  · simp only [cq, hx]; exact List.mem_append_left _ hk
  · simp only [cq]; exact List.mem_append_right _ (dx hx hm k hk)
theorem lm : ∀ {l : List Operand}, (∀ x ∈ l, e' x = e x) → cq e' l = cq e l
 | [], _ => rfl
 | x :: l, h => by
  simp only [cq]
  rw [h x (by simp), lm fun y hy => h y (by simp [hy])]
theorem sn {h : HV} (ho : ∀ k ∈ h.ids, o' k = o k) : tgt o' h = tgt o h := by
 cases h with
 | p x => cases x <;> rfl
 | ref id n => rfl
 | ptr id off => simp only [tgt]; rw [ho id (by simp [HV.ids])]
 | eptr id n i j => simp only [tgt]; rw [ho id (by simp [HV.ids])]
 | win id n i m => rfl
 | clo g k caps => rfl
 | row id i k => rfl
 | rptr id i k r j => simp only [tgt]; rw [ho id (by simp [HV.ids])]
theorem tk {places : List (Nat × Nat)} : ∀ {parts : List (Nat × Operand)} {cells : List HV}, (∀ x ∈ parts.map (·.2), e' x = e x) → fj e' places cells parts = fj e places cells parts
 | [], _, _ => rfl
 | (i, x) :: r, cells, h => by
  have hx := h x (by simp)
  have ih : ∀ cells, fj e' places cells r = fj e places cells r := fun cells => tk fun y hy => h y (by simp at hy ⊢; exact .inr hy)
  simp only [fj, hx, ih]
theorem a0t : ∀ {l : List Operand}, (∀ x ∈ l, e' x = e x) → sx e' l = sx e l
 | [], _ => rfl
 | x :: l, h => by
  simp only [sx]
  rw [h x (by simp), a0t fun y hy => h y (by simp [hy])]
theorem a11 : ∀ {l : List Operand}, (∀ x ∈ l, e' x = e x) → sk e' l = sk e l
 | [], _ => rfl
 | x :: l, h => by
  simp only [sk]
  rw [h x (by simp), a11 fun y hy => h y (by simp [hy])]
theorem jd {x : Option Operand} (h : ∀ y ∈ x.toList, e' y = e y) : gd e' x = gd e x := by
 cases x with
 | none => rfl
 | some y => simp only [gd]; rw [h y (by simp)]
theorem a3m {b : Builtin} {args : List Operand} {tys : List TypeId} (h : ∀ x ∈ args, e' x = e x) : mn E e' b args tys = mn E e b args tys := by
 unfold mn
 split
 · rename_i x t r
   rw [h x (by simp)]
 · rename_i x y
   rw [h x (by simp), h y (by simp)]
 · rename_i x y
   rw [h x (by simp), h y (by simp)]
 · rfl
theorem adx {h : HV} (ho : ∀ k ∈ h.ids, o' k = o k) : xz o' h = xz o h := by
 cases h with
 | ref id n => simp only [xz]; rw [ho id (by simp [HV.ids])]
 | win id n i m => simp only [xz]; rw [ho id (by simp [HV.ids])]
 | row id i k => simp only [xz]; rw [ho id (by simp [HV.ids])]
 | _ => rfl
theorem ae9 {h : HV} {n : Nat} {i : Int} (ho : ∀ k ∈ h.ids, o' k = o k) : a19 o' n i h = a19 o n i h := by
 cases h with
 | ref id n => simp only [a19]; rw [ho id (by simp [HV.ids])]
 | win id n i m => simp only [a19]; rw [ho id (by simp [HV.ids])]
 | row id i k => simp only [a19]; rw [ho id (by simp [HV.ids])]
 | p x => cases x <;> rfl
 | _ => rfl
theorem a9d {h : HV} {n : Nat} {x y z : Option Int} (ho : ∀ k ∈ h.ids, o' k = o k) : qz o' n x y z h = qz o n x y z h := by
 cases h with
 | ref id n => simp only [qz]; rw [ho id (by simp [HV.ids])]
 | win id n i m => simp only [qz]; rw [ho id (by simp [HV.ids])]
 | _ => rfl
theorem a60 {x : Operand} {l : List Operand} {F : b8 → HV → Option Out} {α : Type} {d : α} {G : Option Out → α} (hF : ∀ h : HV, (∀ k ∈ h.ids, o' k = o k) → F o' h = F o h) (hl : x ∈ l) (ho : ∀ k ∈ cq e l, o' k = o k) :
 (match e x with | some (.v (.one h)) => G (F o' h) | _ => d) = (match e x with | some (.v (.one h)) => G (F o h) | _ => d) := by
 cases hex : e x with
 | none => rfl
 | some r =>
  cases r with
  | tup l => rfl
  | v cc =>
   cases cc with
   | agg l => rfl
   | one h =>
    dsimp only
    rw [hF h fun k hk => ho k (dx hex hl k hk)]
theorem a52 {b : Builtin} {args : List Operand} {tys : List TypeId} (h : ∀ x ∈ args, e' x = e x) (ho : ∀ k ∈ cq e args, o' k = o k) : o7 E o' e' b args tys = o7 E o e b args tys := by
 unfold o7
 split
 · rename_i x t r
   rw [h x (by simp)]
   cases E t with
   | none => rfl
   | some ti =>
    dsimp only
    cases ti.k <;> try rfl
    exact a60 (G := id) (F := xz) (fun h hh => adx hh) (by simp) ho
 · rfl
theorem abl {x : Operand} (ho : ∀ k ∈ cq e [x], o' k = o k) : lr o' e x = lr o e x := by
 unfold lr
 cases hex : e x with
 | none => rfl
 | some r =>
  cases r with
  | tup l => rfl
  | v cc =>
   cases cc with
   | agg l => rfl
   | one h =>
    have := sn (o := o) (o' := o') (h := h) (fun k hk => ho k (dx hex (by simp) k hk))
    cases h with
    | p x => cases x <;> rfl
    | ref id n => rfl
    | ptr id off => dsimp only; rw [this]
    | eptr id n i j => dsimp only; rw [this]
    | win id n i m => rfl
    | clo g k caps => rfl
    | row id i k => rfl
    | rptr id i k r j => dsimp only; rw [this]
theorem aa0 {t : TypeId} {x : Operand} (ho : ∀ k ∈ cq e [x], o' k = o k) : je E o' e t x = je E o e t x := by
 unfold je
 cases E t with
 | none => rfl
 | some i =>
  dsimp only
  cases hex : e x with
  | none => rfl
  | some r =>
   cases r with
   | tup l => rfl
   | v cc =>
    cases cc with
    | agg l => rfl
    | one h =>
     dsimp only
     rw [sn (o := o) (o' := o') (h := h) (fun k hk => ho k (dx hex (by simp) k hk))]
theorem a0h {t : TypeId} {x : Operand} {k : Nat} (ho : ∀ k ∈ cq e [x], o' k = o k) : eq E o' e t x k = eq E o e t x k := by
 unfold eq
 cases E t with
 | none => rfl
 | some i =>
  dsimp only
  cases i.k <;> try rfl
  rename_i fs
  dsimp only
  cases fs[k]? with
  | none => rfl
  | some q =>
   obtain ⟨off, ft, bl⟩ := q
   dsimp only
   cases E ft with
   | none => rfl
   | some fi =>
    dsimp only
    cases hex : e x with
    | none => rfl
    | some r =>
     cases r with
     | tup l => rfl
     | v cc =>
      cases cc with
      | agg l => rfl
      | one h =>
       dsimp only
       rw [sn (o := o) (o' := o') (h := h) (fun k hk => ho k (dx hex (by simp) k hk))]
theorem a1a {len : Nat} {el : TypeId} {x i : Operand} (ho : ∀ k ∈ cq e [x], o' k = o k) : jk E o' e len el x i = jk E o e len el x i := by
 unfold jk
 cases E el with
 | none => rfl
 | some ei =>
  dsimp only
  cases hex : e x with
  | none => rfl
  | some r =>
   cases r with
   | tup l => rfl
   | v cc =>
    cases cc with
    | agg l => rfl
    | one h =>
     dsimp only
     rw [sn (o := o) (o' := o') (h := h) (fun k hk => ho k (dx hex (by simp) k hk))]
theorem a0e {t : TypeId} {x i : Operand} (ho : ∀ k ∈ cq e [x], o' k = o k) : f5 E o' e t x i = f5 E o e t x i := by
 unfold f5
 cases E t with
 | none => rfl
 | some ii =>
  dsimp only
  cases ii.k <;> try rfl
  case array len el => exact a1a ho
  rename_i el
  dsimp only
  cases E el with
  | none => rfl
  | some ei =>
   dsimp only
   cases hex : e x with
   | none => rfl
   | some r =>
    cases r with
    | tup l => rfl
    | v cc =>
     cases cc with
     | agg l => rfl
     | one h =>
      dsimp only
      have := fun iv => ae9 (o := o) (o' := o') (h := h) (n := ei.size) (i := iv) (fun k hk => ho k (dx hex (by simp) k hk))
      simp only [this]
theorem abf {h : HV} {kk : KK} {m : MK} {z : Value} {cm : Bool} (ho : ∀ k ∈ h.ids, o' k = o k) : a3l o' kk m z cm h = a3l o kk m z cm h := by
 cases h with
 | ref id n => simp only [a3l]; rw [ho id (by simp [HV.ids])]
 | _ => rfl
theorem a4m {t : TypeId} {x i : Operand} {cm : Bool} (ho : ∀ k ∈ cq e [x], o' k = o k) : gu E o' e t x i cm = gu E o e t x i cm := by
 unfold gu
 cases E t with
 | none => rfl
 | some ii =>
  dsimp only
  cases ii.k <;> try rfl
  rename_i kt et
  dsimp only
  cases aef E kt et with
  | none => rfl
  | some q =>
   obtain ⟨kk, z⟩ := q
   dsimp only
   cases hex : e x with
   | none => rfl
   | some r =>
    cases r with
    | tup l => rfl
    | v cc =>
     cases cc with
     | agg l => rfl
     | one h =>
      dsimp only
      have := fun m => abf (o := o) (o' := o') (h := h) (kk := kk) (m := m) (z := z) (cm := cm) (fun k hk => ho k (dx hex (by simp) k hk))
      simp only [this]
theorem ap6 {op : Op} (hx : ∀ x ∈ op.operands, e' x = e x) (ho : ∀ k ∈ cq e op.operands.toList, o' k = o k) : hq E ex o' e' op = hq E ex o e op := by
 cases op <;> try rfl
 case move x => show Option.map _ (e' x) = Option.map _ (e x); rw [hx x (by simp [Op.operands])]
 case assign x => show Option.map _ (e' x) = Option.map _ (e x); rw [hx x (by simp [Op.operands])]
 case pick c x y =>
  show vb e' c x y = vb e c x y
  unfold vb
  rw [hx c (by simp [Op.operands]), hx x (by simp [Op.operands]), hx y (by simp [Op.operands])]
 case nilCheck x =>
  show lr o' e' x = lr o e x
  have h1 : lr o' e' x = lr o' e x := by unfold lr; rw [hx x (by simp [Op.operands])]
  rw [h1]
  exact abl (by simpa [Op.operands] using ho)
 case load t x =>
  show je E o' e' t x = je E o e t x
  have h1 : je E o' e' t x = je E o' e t x := by unfold je; rw [hx x (by simp [Op.operands])]
  rw [h1]
  exact aa0 (by simpa [Op.operands] using ho)
 case fieldAddr t x k =>
  show eq E o' e' t x k = eq E o e t x k
  have h1 : eq E o' e' t x k = eq E o' e t x k := by unfold eq; rw [hx x (by simp [Op.operands])]
  rw [h1]
  exact a0h (by simpa [Op.operands] using ho)
 case field t x k =>
  show qn E e' t x k = qn E e t x k
  unfold qn
  rw [hx x (by simp [Op.operands])]
 case indexAddr t x i =>
  show f5 E o' e' t x i = f5 E o e t x i
  have h1 : f5 E o' e' t x i = f5 E o' e t x i := by unfold f5 jk; rw [hx x (by simp [Op.operands]), hx i (by simp [Op.operands])]
  rw [h1]
  refine a0e fun k hk => ho k ?_
  simp only [cq, Op.operands, List.append_nil] at hk ⊢
  exact List.mem_append_left _ hk
 case lookup t x i cm =>
  show gu E o' e' t x i cm = gu E o e t x i cm
  have h1 : gu E o' e' t x i cm = gu E o' e t x i cm := by unfold gu; rw [hx x (by simp [Op.operands]), hx i (by simp [Op.operands])]
  rw [h1]
  refine a4m fun k hk => ho k ?_
  simp only [cq, Op.operands, List.append_nil] at hk ⊢
  exact List.mem_append_left _ hk
 case index t x i =>
  show qe E e' t x i = qe E e t x i
  unfold qe
  rw [hx x (by simp [Op.operands]), hx i (by simp [Op.operands])]
 case binOp op t x y ty =>
  have h1 : a01 E ex e' op t x y = a01 E ex e op t x y := by
   unfold a01
   rw [hx x (by simp [Op.operands]), hx y (by simp [Op.operands])]
  have h2 : o3 E e' op t x y = o3 E e op t x y := by
   unfold o3
   rw [hx x (by simp [Op.operands])]
  simp only [hq]
  rw [h1, h2]
 case unOp op t x =>
  show a5i ex e' op x = a5i ex e op x
  unfold a5i
  rw [hx x (by simp [Op.operands])]
 case convert src dst x =>
  show uh E ex e' src dst x = uh E ex e src dst x
  unfold uh
  rw [hx x (by simp [Op.operands])]
 case extract x i =>
  show mq e' x i = mq e x i
  unfold mq
  rw [hx x (by simp [Op.operands])]
 case slice t x lo hi mx =>
  have e0 := hx x (by simp [Op.operands])
  have e1 := jd (e := e) (e' := e') (x := lo) (fun y hy => hx y (by simp [Op.operands]; simp at hy; simp [hy]))
  have e2 := jd (e := e) (e' := e') (x := hi) (fun y hy => hx y (by simp [Op.operands]; simp at hy; simp [hy]))
  have e3 := jd (e := e) (e' := e') (x := mx) (fun y hy => hx y (by simp [Op.operands]; simp at hy; simp [hy]))
  have h1 : iw E e' t x lo hi mx = iw E e t x lo hi mx := by
   unfold iw
   rw [e0, e1, e2, e3]
  have h2 : zx E o' e' t x lo hi mx = zx E o e t x lo hi mx := by
   unfold zx
   rw [e0, e1, e2, e3]
   cases E t with
   | none => rfl
   | some ti =>
    dsimp only
    cases ti.k <;> try rfl
    rename_i el
    dsimp only
    cases E el with
    | none => rfl
    | some ei =>
     dsimp only
     cases gd e lo with
     | none => rfl
     | some l =>
      cases gd e hi with
      | none => rfl
      | some hh =>
       cases gd e mx with
       | none => rfl
       | some m =>
        dsimp only
        exact a60 (G := id) (F := fun o h => qz o ei.size l hh m h) (fun h hh => a9d hh) (l := (Op.slice t x lo hi mx).operands.toList) (by simp [Op.operands]) ho
  simp only [hq]
  rw [h1, h2]
 case makeFunc fn first caps =>
  show ui e' fn first.toList caps.toList = ui e fn first.toList caps.toList
  unfold ui
  rw [a0t (l := caps.toList) (fun y hy => hx y (by simp [Op.operands]; simp at hy; exact .inr hy)), a11 (l := caps.toList) (fun y hy => hx y (by simp [Op.operands]; simp at hy; exact .inr hy))]
 case build t parts =>
  show qi E e' t parts.toList = qi E e t parts.toList
  have hf : ∀ places cells, fj e' places cells parts.toList = fj e places cells parts.toList := fun places cells => tk fun x hm => hx x (by simpa [Op.operands] using hm)
  unfold qi
  simp only [hf]
 case call c =>
  simp only [hq]
  cases hc : c.callee with
  | value f => rfl
  | invoke r m => rfl
  | builtin b =>
   simp only [Op.operands, Call.operands, hc] at hx ho
   have h1 : ∀ x ∈ c.args.toList, e' x = e x := fun x hm => hx x (by simpa using hm)
   have h2 : ∀ k ∈ cq e c.args.toList, o' k = o k := fun k hk => ho k (by simpa using hk)
   dsimp only
   rw [a3m h1, a52 h1 h2]
theorem aoh {op : Op} {id : Nat} (hx : ∀ x ∈ op.operands, e' x = e x) : ha E e' id op = ha E e id op := by
 cases op <;> simp only [ha] <;> simp only [Op.operands] at hx
 case box t x => rw [hx x (by simp)]
 case buildSlice t n parts =>
  have hf : ∀ sz cells, zd e' sz n parts.toList cells = zd e sz n parts.toList cells := fun sz cells => by
   unfold zd
   exact tk fun x hm => hx x (by simpa using hm)
  simp only [hf]
 case makeSlice t l c => rw [hx l (by simp), hx c (by simp)]
theorem a7g {t : TypeId} {x y : Operand} (ho : ∀ k ∈ cq e [x, y], o' k = o k) : iu E o' e t x y = iu E o e t x y := by
 unfold iu
 cases E t with
 | none => rfl
 | some i =>
  cases hv : e y with
  | none => rfl
  | some rv =>
   cases rv with
   | tup l => rfl
   | v cv =>
    cases hex : e x with
    | none => rfl
    | some r =>
     cases r with
     | tup l => rfl
     | v cc =>
      cases cc with
      | agg l => rfl
      | one h =>
       cases h with
       | p x => cases x <;> rfl
       | ref id n => rfl
       | ptr id off => dsimp only; rw [ho id (dx hex (by simp) id (by simp [HR.ids, HC.ids, HV.ids]))]
       | eptr id n r j => dsimp only; rw [ho id (dx hex (by simp) id (by simp [HR.ids, HC.ids, HV.ids]))]
       | win id n i m => rfl
       | clo g k caps => rfl
       | row id i k => rfl
       | rptr id i k r j => dsimp only; rw [ho id (dx hex (by simp) id (by simp [HR.ids, HC.ids, HV.ids]))]
theorem aah {h : HV} {kk : KK} {m : MK} {y : PV} (ho : ∀ k ∈ h.ids, o' k = o k) : z7 o' kk m y h = z7 o kk m y h := by
 cases h with
 | ref id n => simp only [z7]; rw [ho id (by simp [HV.ids])]
 | _ => rfl
theorem abu {t : TypeId} {x i v : Operand} (ho : ∀ k ∈ cq e [x], o' k = o k) : n5 E o' e t x i v = n5 E o e t x i v := by
 unfold n5
 cases E t with
 | none => rfl
 | some ii =>
  dsimp only
  cases ii.k <;> try rfl
  rename_i kt et
  dsimp only
  cases E kt with
  | none => rfl
  | some ki =>
   dsimp only
   cases hex : e x with
   | none => rfl
   | some r =>
    cases r with
    | tup l => rfl
    | v cc =>
     cases cc with
     | agg l => rfl
     | one h =>
      dsimp only
      have := fun kk m y => aah (o := o) (o' := o') (h := h) (kk := kk) (m := m) (y := y) (fun k hk => ho k (dx hex (by simp) k hk))
      simp only [this]
theorem a9b {op : Op} (hx : ∀ x ∈ op.operands, e' x = e x) (ho : ∀ k ∈ cq e op.operands.toList, o' k = o k) : hs E o' e' op = hs E o e op := by
 cases op <;> try rfl
 case mapUpdate t x i v =>
  show n5 E o' e' t x i v = n5 E o e t x i v
  have h1 : n5 E o' e' t x i v = n5 E o' e t x i v := by unfold n5; rw [hx x (by simp [Op.operands]), hx i (by simp [Op.operands]), hx v (by simp [Op.operands])]
  rw [h1]
  refine abu fun k hk => ho k ?_
  simp only [cq, Op.operands, List.append_nil] at hk ⊢
  exact List.mem_append_left _ hk
 case store t addr v =>
  show iu E o' e' t addr v = iu E o e t addr v
  have h1 : iu E o' e' t addr v = iu E o' e t addr v := by unfold iu; rw [hx addr (by simp [Op.operands]), hx v (by simp [Op.operands])]
  rw [h1]
  exact a7g (by simpa [Op.operands] using ho)
theorem a0z {id : Nat} {h : HV} (ho : ∀ k ∈ h.ids, o' k = o k) : pw o' id h = pw o id h := by
 cases h with
 | p x =>
  cases x with
  | raw v =>
   cases v with
   | slice a n c => cases n <;> rfl
   | _ => rfl
  | _ => rfl
 | ref id' n => simp only [pw]; rw [ho id' (by simp [HV.ids])]
 | _ => rfl
theorem a0l {id n : Nat} {wb : Bool} {el : TypeId} {y : HV} (hid : o' id = o id) (ho : ∀ k ∈ y.ids, o' k = o k) : ss E o' id n wb el y = ss E o id n wb el y := by
 simp only [ss]
 rw [hid, a0z ho]
theorem a40 {id : Nat} {h : HV} (ho : ∀ k ∈ h.ids, o' k = o k) : yx o' id h = yx o id h := by
 simp only [yx]
 rw [a0z ho]
 cases h with
 | ref id' n => simp only; rw [ho id' (by simp [HV.ids])]
 | _ => rfl
theorem aaf {id n : Nat} {el : TypeId} {y : HV} (hid : o' id = o id) (ho : ∀ k ∈ y.ids, o' k = o k) : s6 E o' id n el y = s6 E o id n el y := by
 simp only [s6]
 rw [hid, a40 ho]
theorem ae5 {id n : Nat} {el : TypeId} {y : HV} (hid : o' id = o id) (ho : ∀ k ∈ y.ids, o' k = o k) : a1s E o' id n el y = a1s E o id n el y := by
 simp only [a1s]
 rw [hid, a40 ho]
theorem ac1 {el : TypeId} {id n i k : Nat} {y : HV} (hid : o' id = o id) : wh E o' el id n i k y = wh E o el id n i k y := by
 unfold wh
 rw [hid]
theorem adw {h : HV} {z : List Value} {n : Nat} (ho : ∀ k ∈ h.ids, o' k = o k) : a4f o' z n h = a4f o z n h := by
 cases h with
 | win id n i m => simp only [a4f]; rw [ho id (by simp [HV.ids])]
 | _ => rfl
theorem abn {id : Nat} {wb : Bool} {el : TypeId} {hy hx : HV} (h1 : ∀ k ∈ hx.ids, o' k = o k) (h2 : ∀ k ∈ hy.ids, o' k = o k) : sw E o' id wb el hy hx = sw E o id wb el hy hx := by
 cases hx with
 | win id1 n i k =>
  simp only [sw]
  exact ac1 (h1 id1 (by simp [HV.ids]))
 | ref id1 n =>
  simp only [sw]
  rw [a0l (o := o) (o' := o') (h1 id1 (by simp [HV.ids])) h2, aaf (o := o) (o' := o') (h1 id1 (by simp [HV.ids])) h2, ae5 (o := o) (o' := o') (h1 id1 (by simp [HV.ids])) h2]
 | p px =>
  cases px with
  | sl n sz cl f =>
   cases cl with
   | false => rfl
   | true =>
    simp only [sw]
    cases E el with
    | none => rfl
    | some ei =>
     dsimp only
     rw [a0l (o := fun k => if k = id then some (ai.arr false ei.size el n f) else o k) (o' := fun k => if k = id then some (ai.arr false ei.size el n f) else o' k) (by simp) (fun k hk => by
      try dsimp only
      split
      · rfl
      · exact h2 k hk)]
  | _ => rfl
 | _ => rfl
theorem abr {id : Nat} {wb : Bool} {t : TypeId} {x y : Option HR} (hx : ∀ r, x = some r → ∀ k ∈ r.ids, o' k = o k) (hy : ∀ r, y = some r → ∀ k ∈ r.ids, o' k = o k) :
 zf E o' id wb t x y = zf E o id wb t x y := by
 unfold zf
 cases E t with
 | none => rfl
 | some i =>
  dsimp only
  cases i.k <;> try rfl
  rename_i el
  cases x with
  | none => rfl
  | some rx =>
   cases rx with
   | tup l => rfl
   | v cx =>
    cases cx with
    | agg l => rfl
    | one hxv =>
     cases y with
     | none => rfl
     | some ry =>
      cases ry with
      | tup l => rfl
      | v cy =>
       cases cy with
       | agg l => rfl
       | one hyv => exact abn (hx _ rfl) (hy _ rfl)
theorem aiu {op : Op} {id : Nat} {wb : Bool} (hx : ∀ x ∈ op.operands, e' x = e x) (ho : ∀ k ∈ cq e op.operands.toList, o' k = o k) : hap E o' e' id wb op = hap E o e id wb op := by
 cases op <;> try rfl
 case call c =>
  unfold hap
  dsimp only
  split
  · rename_i hc
    simp only [Op.operands, Call.operands, hc] at hx ho
    have h1 : ∀ x ∈ c.args.toList, e' x = e x := fun x hm => hx x (by simpa using hm)
    have h2 : ∀ k ∈ cq e c.args.toList, o' k = o k := fun k hk => ho k (by simpa using hk)
    generalize c.args.toList = l at h1 h2
    unfold a08
    split
    · rename_i x y t t' _
      split
      · rw [h1 x (by simp), h1 y (by simp)]
        exact abr (fun r hr k hk => h2 k (dx hr (by simp) k hk)) (fun r hr k hk => h2 k (dx hr (by simp) k hk))
      · rfl
    · rfl
  · rename_i hc
    simp only [Op.operands, Call.operands, hc] at hx ho
    have h1 : ∀ x ∈ c.args.toList, e' x = e x := fun x hm => hx x (by simpa using hm)
    have h2 : ∀ k ∈ cq e c.args.toList, o' k = o k := fun k hk => ho k (by simpa using hk)
    generalize c.args.toList = l at h1 h2
    unfold qw
    split
    · rename_i x t _
      rw [h1 x (by simp)]
      cases E t with
      | none => rfl
      | some ti =>
       dsimp only
       cases ti.k <;> try rfl
       rename_i el
       dsimp only
       cases E el with
       | none => rfl
       | some ei =>
        dsimp only
        cases ei.zero with
        | none => rfl
        | some z =>
         dsimp only
         split
         · cases hex : e x with
           | none => rfl
           | some r =>
            cases r with
            | tup l => rfl
            | v cc =>
             cases cc with
             | agg l => rfl
             | one hv => exact adw fun k hk => h2 k (dx hex (by simp) k hk)
         · rfl
    · rfl
  · rfl
theorem a13 {h : HV} (ho : ∀ k ∈ h.ids, o' k = o k) : wg o' h = wg o h := by
 cases h with
 | ref id n => simp only [wg]; rw [ho id (by simp [HV.ids])]
 | _ => rfl
end
end Go.Hx
end
