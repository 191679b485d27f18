/- A part of the proof: Hx11. -/
import Derived.Test.YtidophngianjiaaGreatDoor6x09
set_option linter.all false
section
namespace Go.Hx
open Go.RowKit
section
variable {E : Env} {ex : Bool} {o o' : b7} {e e' : Ev}
theorem en {x : Operand} {r : HR} (hx : e x = some r) : ∀ {l : List Operand}, x ∈ l → ∀ k ∈ r.ids, k ∈ cw e l
 | y :: l, hm, k, hk => by
  rcases List.mem_cons.1 hm with rfl | hm
  · simp only [cw, hx]; exact List.mem_append_left _ hk
  · simp only [cw]; exact List.mem_append_right _ (en hx hm k hk)
theorem mb : ∀ {l : List Operand}, (∀ x ∈ l, e' x = e x) → cw e' l = cw e l
 | [], _ => rfl
 | x :: l, h => by
  simp only [cw]
  rw [h x (by simp), mb fun y hy => h y (by simp [hy])]
theorem ul {h : HV} (ho : ∀ k ∈ h.ids, o' k = o k) : tgt o' h = tgt o h := by
 cases h with
 | p x => cases x <;> rfl
 | ref id n => rfl
 | ptr id off => simp only [tgt]; rw [ho id (by simp [HV.ids])]
 | eptr id n i j => simp only [tgt]; rw [ho id (by simp [HV.ids])]
 | win id n i m => rfl
 | clo g k caps => rfl
 | row id i k => rfl
 | rptr id i k r j => simp only [tgt]; rw [ho id (by simp [HV.ids])]
theorem v6 {places : List (Nat × Nat)} : ∀ {parts : List (Nat × Operand)} {cells : List HV}, (∀ x ∈ parts.map (·.2), e' x = e x) → fy e' places cells parts = fy e places cells parts
 | [], _, _ => rfl
 | (i, x) :: r, cells, h => by
  have hx := h x (by simp)
  have ih : ∀ cells, fy e' places cells r = fy e places cells r := fun cells => v6 fun y hy => h y (by simp at hy ⊢; exact .inr hy)
  simp only [fy, hx, ih]
theorem a2f : ∀ {l : List Operand}, (∀ x ∈ l, e' x = e x) → uj e' l = uj e l
 | [], _ => rfl
 | x :: l, h => by
  simp only [uj]
  rw [h x (by simp), a2f fun y hy => h y (by simp [hy])]
theorem a29 : ∀ {l : List Operand}, (∀ x ∈ l, e' x = e x) → uk e' l = uk e l
 | [], _ => rfl
 | x :: l, h => by
  simp only [uk]
  rw [h x (by simp), a29 fun y hy => h y (by simp [hy])]
theorem jt {x : Option Operand} (h : ∀ y ∈ x.toList, e' y = e y) : gj e' x = gj e x := by
 cases x with
 | none => rfl
 | some y => simp only [gj]; rw [h y (by simp)]
theorem a4d {b : Builtin} {args : List Operand} {tys : List TypeId} (h : ∀ x ∈ args, e' x = e x) : np E e' b args tys = np E e b args tys := by
 unfold np
 split
 · rename_i x t r
   rw [h x (by simp)]
 · rename_i x y
   rw [h x (by simp), h y (by simp)]
 · rename_i x y
   rw [h x (by simp), h y (by simp)]
 · rfl
theorem ag2 {h : HV} (ho : ∀ k ∈ h.ids, o' k = o k) : ze o' h = ze o h := by
 cases h with
 | ref id n => simp only [ze]; rw [ho id (by simp [HV.ids])]
 | win id n i m => simp only [ze]; rw [ho id (by simp [HV.ids])]
 | row id i k => simp only [ze]; rw [ho id (by simp [HV.ids])]
 | _ => rfl
theorem afi {h : HV} {n : Nat} {i : Int} (ho : ∀ k ∈ h.ids, o' k = o k) : a3c o' n i h = a3c o n i h := by
 cases h with
 | ref id n => simp only [a3c]; rw [ho id (by simp [HV.ids])]
 | win id n i m => simp only [a3c]; rw [ho id (by simp [HV.ids])]
 | row id i k => simp only [a3c]; rw [ho id (by simp [HV.ids])]
 | p x => cases x <;> rfl
 | _ => rfl
theorem abn {h : HV} {n : Nat} {x y z : Option Int} (ho : ∀ k ∈ h.ids, o' k = o k) : tf o' n x y z h = tf o n x y z h := by
 cases h with
 | ref id n => simp only [tf]; rw [ho id (by simp [HV.ids])]
 | win id n i m => simp only [tf]; rw [ho id (by simp [HV.ids])]
 | _ => rfl
theorem a7v {x : Operand} {l : List Operand} {F : b7 → HV → Option Out} {α : Type} {d : α} {G : Option Out → α} (hF : ∀ h : HV, (∀ k ∈ h.ids, o' k = o k) → F o' h = F o h) (hl : x ∈ l) (ho : ∀ k ∈ cw e l, o' k = o k) :
 (match e x with | some (.v (.one h)) => G (F o' h) | _ => d) = (match e x with | some (.v (.one h)) => G (F o h) | _ => d) := by
 cases hex : e x with
 | none => rfl
 | some r =>
  cases r with
  | tup l => rfl
  | v cc =>
   cases cc with
   | agg l => rfl
   | one h =>
    dsimp only
    rw [hF h fun k hk => ho k (en hex hl k hk)]
theorem a5g {b : Builtin} {args : List Operand} {tys : List TypeId} (h : ∀ x ∈ args, e' x = e x) (ho : ∀ k ∈ cw e args, o' k = o k) : oc E o' e' b args tys = oc E o e b args tys := by
 unfold oc
 split
 · rename_i x t r
   rw [h x (by simp)]
   cases E t with
   | none => rfl
   | some ti =>
    dsimp only
    cases ti.k <;> try rfl
    exact a7v (G := id) (F := ze) (fun h hh => ag2 hh) (by simp) ho
 · rfl
theorem ad6 {x : Operand} (ho : ∀ k ∈ cw e [x], o' k = o k) : ml o' e x = ml o e x := by
 unfold ml
 cases hex : e x with
 | none => rfl
 | some r =>
  cases r with
  | tup l => rfl
  | v cc =>
   cases cc with
   | agg l => rfl
   | one h =>
    have := ul (o := o) (o' := o') (h := h) (fun k hk => ho k (en hex (by simp) k hk))
    cases h with
    | p x => cases x <;> rfl
    | ref id n => rfl
    | ptr id off => dsimp only; rw [this]
    | eptr id n i j => dsimp only; rw [this]
    | win id n i m => rfl
    | clo g k caps => rfl
    | row id i k => rfl
    | rptr id i k r j => dsimp only; rw [this]
theorem aaq {t : TypeId} {x : Operand} (ho : ∀ k ∈ cw e [x], o' k = o k) : jo E o' e t x = jo E o e t x := by
 unfold jo
 cases E t with
 | none => rfl
 | some i =>
  dsimp only
  cases hex : e x with
  | none => rfl
  | some r =>
   cases r with
   | tup l => rfl
   | v cc =>
    cases cc with
    | agg l => rfl
    | one h =>
     dsimp only
     rw [ul (o := o) (o' := o') (h := h) (fun k hk => ho k (en hex (by simp) k hk))]
theorem a1l {t : TypeId} {x : Operand} {k : Nat} (ho : ∀ k ∈ cw e [x], o' k = o k) : f5 E o' e t x k = f5 E o e t x k := by
 unfold f5
 cases E t with
 | none => rfl
 | some i =>
  dsimp only
  cases i.k <;> try rfl
  rename_i fs
  dsimp only
  cases fs[k]? with
  | none => rfl
  | some q =>
   obtain ⟨off, ft, bl⟩ := q
   dsimp only
   cases E ft with
   | none => rfl
   | some fi =>
    dsimp only
    cases hex : e x with
    | none => rfl
    | some r =>
     cases r with
     | tup l => rfl
     | v cc =>
      cases cc with
      | agg l => rfl
      | one h =>
       dsimp only
       rw [ul (o := o) (o' := o') (h := h) (fun k hk => ho k (en hex (by simp) k hk))]
theorem a2j {len : Nat} {el : TypeId} {x i : Operand} (ho : ∀ k ∈ cw e [x], o' k = o k) : jy E o' e len el x i = jy E o e len el x i := by
 unfold jy
 cases E el with
 | none => rfl
 | some ei =>
  dsimp only
  cases hex : e x with
  | none => rfl
  | some r =>
   cases r with
   | tup l => rfl
   | v cc =>
    cases cc with
    | agg l => rfl
    | one h =>
     dsimp only
     rw [ul (o := o) (o' := o') (h := h) (fun k hk => ho k (en hex (by simp) k hk))]
theorem a1o {t : TypeId} {x i : Operand} (ho : ∀ k ∈ cw e [x], o' k = o k) : ff E o' e t x i = ff E o e t x i := by
 unfold ff
 cases E t with
 | none => rfl
 | some ii =>
  dsimp only
  cases ii.k <;> try rfl
  case array len el => exact a2j ho
  rename_i el
  dsimp only
  cases E el with
  | none => rfl
  | some ei =>
   dsimp only
   cases hex : e x with
   | none => rfl
   | some r =>
    cases r with
    | tup l => rfl
    | v cc =>
     cases cc with
     | agg l => rfl
     | one h =>
      dsimp only
      have := fun iv => afi (o := o) (o' := o') (h := h) (n := ei.size) (i := iv) (fun k hk => ho k (en hex (by simp) k hk))
      simp only [this]
theorem acl {h : HV} {kk : KK} {m : MK} {z : Value} {cm : Bool} (ho : ∀ k ∈ h.ids, o' k = o k) : a3v o' kk m z cm h = a3v o kk m z cm h := by
 cases h with
 | ref id n => simp only [a3v]; rw [ho id (by simp [HV.ids])]
 | _ => rfl
theorem a5j {t : TypeId} {x i : Operand} {cm : Bool} (ho : ∀ k ∈ cw e [x], o' k = o k) : ip E o' e t x i cm = ip E o e t x i cm := by
 unfold ip
 cases E t with
 | none => rfl
 | some ii =>
  dsimp only
  cases ii.k <;> try rfl
  rename_i kt et
  dsimp only
  cases afq E kt et with
  | none => rfl
  | some q =>
   obtain ⟨kk, z⟩ := q
   dsimp only
   cases hex : e x with
   | none => rfl
   | some r =>
    cases r with
    | tup l => rfl
    | v cc =>
     cases cc with
     | agg l => rfl
     | one h =>
      dsimp only
      have := fun m => acl (o := o) (o' := o') (h := h) (kk := kk) (m := m) (z := z) (cm := cm) (fun k hk => ho k (en hex (by simp) k hk))
      simp only [this]
theorem anz {op : Op} (hx : ∀ x ∈ op.operands, e' x = e x) (ho : ∀ k ∈ cw e op.operands.toList, o' k = o k) : hq E ex o' e' op = hq E ex o e op := by
 cases op <;> try rfl
 case move x => show Option.map _ (e' x) = Option.map _ (e x); rw [hx x (by simp [Op.operands])]
 case assign x => show Option.map _ (e' x) = Option.map _ (e x); rw [hx x (by simp [Op.operands])]
 case pick c x y =>
  show vz e' c x y = vz e c x y
  unfold vz
  rw [hx c (by simp [Op.operands]), hx x (by simp [Op.operands]), hx y (by simp [Op.operands])]
 case nilCheck x =>
  show ml o' e' x = ml o e x
  have h1 : ml o' e' x = ml o' e x := by unfold ml; rw [hx x (by simp [Op.operands])]
  rw [h1]
  exact ad6 (by simpa [Op.operands] using ho)
 case load t x =>
  show jo E o' e' t x = jo E o e t x
  have h1 : jo E o' e' t x = jo E o' e t x := by unfold jo; rw [hx x (by simp [Op.operands])]
  rw [h1]
  exact aaq (by simpa [Op.operands] using ho)
 case fieldAddr t x k =>
  show f5 E o' e' t x k = f5 E o e t x k
  have h1 : f5 E o' e' t x k = f5 E o' e t x k := by unfold f5; rw [hx x (by simp [Op.operands])]
  rw [h1]
  exact a1l (by simpa [Op.operands] using ho)
 case field t x k =>
  show ru E e' t x k = ru E e t x k
  unfold ru
  rw [hx x (by simp [Op.operands])]
 case indexAddr t x i =>
  show ff E o' e' t x i = ff E o e t x i
  have h1 : ff E o' e' t x i = ff E o' e t x i := by unfold ff jy; rw [hx x (by simp [Op.operands]), hx i (by simp [Op.operands])]
  rw [h1]
  refine a1o fun k hk => ho k ?_
  simp only [cw, Op.operands, List.append_nil] at hk ⊢
  exact List.mem_append_left _ hk
 case lookup t x i cm =>
  show ip E o' e' t x i cm = ip E o e t x i cm
  have h1 : ip E o' e' t x i cm = ip E o' e t x i cm := by unfold ip; rw [hx x (by simp [Op.operands]), hx i (by simp [Op.operands])]
  rw [h1]
  refine a5j fun k hk => ho k ?_
  simp only [cw, Op.operands, List.append_nil] at hk ⊢
  exact List.mem_append_left _ hk
 case index t x i =>
  show rp E e' t x i = rp E e t x i
  unfold rp
  rw [hx x (by simp [Op.operands]), hx i (by simp [Op.operands])]
 case binOp op t x y ty =>
  have h1 : a0s E ex e' op t x y = a0s E ex e op t x y := by
   unfold a0s
   rw [hx x (by simp [Op.operands]), hx y (by simp [Op.operands])]
  have h2 : ol E e' op t x y = ol E e op t x y := by
   unfold ol
   rw [hx x (by simp [Op.operands])]
  simp only [hq]
  rw [h1, h2]
 case unOp op t x =>
  show a71 ex e' op x = a71 ex e op x
  unfold a71
  rw [hx x (by simp [Op.operands])]
 case convert src dst x =>
  show vq E ex e' src dst x = vq E ex e src dst x
  unfold vq
  rw [hx x (by simp [Op.operands])]
 case extract x i =>
  show ne e' x i = ne e x i
  unfold ne
  rw [hx x (by simp [Op.operands])]
 case slice t x lo hi mx =>
  have e0 := hx x (by simp [Op.operands])
  have e1 := jt (e := e) (e' := e') (x := lo) (fun y hy => hx y (by simp [Op.operands]; simp at hy; simp [hy]))
  have e2 := jt (e := e) (e' := e') (x := hi) (fun y hy => hx y (by simp [Op.operands]; simp at hy; simp [hy]))
  have e3 := jt (e := e) (e' := e') (x := mx) (fun y hy => hx y (by simp [Op.operands]; simp at hy; simp [hy]))
  have h1 : j7 E e' t x lo hi mx = j7 E e t x lo hi mx := by
   unfold j7
   rw [e0, e1, e2, e3]
  have h2 : a10 E o' e' t x lo hi mx = a10 E o e t x lo hi mx := by
   unfold a10
   rw [e0, e1, e2, e3]
   cases E t with
   | none => rfl
   | some ti =>
    dsimp only
    cases ti.k <;> try rfl
    rename_i el
    dsimp only
    cases E el with
    | none => rfl
    | some ei =>
     dsimp only
     cases gj e lo with
     | none => rfl
     | some l =>
      cases gj e hi with
      | none => rfl
      | some hh =>
       cases gj e mx with
       | none => rfl
       | some m =>
        dsimp only
        exact a7v (G := id) (F := fun o h => tf o ei.size l hh m h) (fun h hh => abn hh) (l := (Op.slice t x lo hi mx).operands.toList) (by simp [Op.operands]) ho
  simp only [hq]
  rw [h1, h2]
 case makeFunc fn first caps =>
  show wh e' fn first.toList caps.toList = wh e fn first.toList caps.toList
  unfold wh
  rw [a2f (l := caps.toList) (fun y hy => hx y (by simp [Op.operands]; simp at hy; exact .inr hy)), a29 (l := caps.toList) (fun y hy => hx y (by simp [Op.operands]; simp at hy; exact .inr hy))]
 case build t parts =>
  show s7 E e' t parts.toList = s7 E e t parts.toList
  have hf : ∀ places cells, fy e' places cells parts.toList = fy e places cells parts.toList := fun places cells => v6 fun x hm => hx x (by simpa [Op.operands] using hm)
  unfold s7
  simp only [hf]
 case call c =>
  simp only [hq]
  cases hc : c.callee with
  | value f => rfl
  | invoke r m => rfl
  | builtin b =>
   simp only [Op.operands, Call.operands, hc] at hx ho
   have h1 : ∀ x ∈ c.args.toList, e' x = e x := fun x hm => hx x (by simpa using hm)
   have h2 : ∀ k ∈ cw e c.args.toList, o' k = o k := fun k hk => ho k (by simpa using hk)
   dsimp only
   rw [a4d h1, a5g h1 h2]
theorem alc {op : Op} {id : Nat} (hx : ∀ x ∈ op.operands, e' x = e x) : ha E e' id op = ha E e id op := by
 cases op <;> simp only [ha] <;> simp only [Op.operands] at hx
 case box t x => rw [hx x (by simp)]
 case buildSlice t n parts =>
  have hf : ∀ sz cells, a0q e' sz n parts.toList cells = a0q e sz n parts.toList cells := fun sz cells => by
   unfold a0q
   exact v6 fun x hm => hx x (by simpa using hm)
  simp only [hf]
 case makeSlice t l c => rw [hx l (by simp), hx c (by simp)]
theorem a8i {t : TypeId} {x y : Operand} (ho : ∀ k ∈ cw e [x, y], o' k = o k) : j5 E o' e t x y = j5 E o e t x y := by
 unfold j5
 cases E t with
 | none => rfl
 | some i =>
  cases hv : e y with
  | none => rfl
  | some rv =>
   cases rv with
   | tup l => rfl
   | v cv =>
    cases hex : e x with
    | none => rfl
    | some r =>
     cases r with
     | tup l => rfl
     | v cc =>
      cases cc with
      | agg l => rfl
      | one h =>
       cases h with
       | p x => cases x <;> rfl
       | ref id n => rfl
       | ptr id off => dsimp only; rw [ho id (en hex (by simp) id (by simp [HR.ids, HC.ids, HV.ids]))]
       | eptr id n r j => dsimp only; rw [ho id (en hex (by simp) id (by simp [HR.ids, HC.ids, HV.ids]))]
       | win id n i m => rfl
       | clo g k caps => rfl
       | row id i k => rfl
       | rptr id i k r j => dsimp only; rw [ho id (en hex (by simp) id (by simp [HR.ids, HC.ids, HV.ids]))]
theorem a9z {h : HV} {kk : KK} {m : MK} {y : PV} (ho : ∀ k ∈ h.ids, o' k = o k) : yn o' kk m y h = yn o kk m y h := by
 cases h with
 | ref id n => simp only [yn]; rw [ho id (by simp [HV.ids])]
 | _ => rfl
theorem acw {t : TypeId} {x i v : Operand} (ho : ∀ k ∈ cw e [x], o' k = o k) : o0 E o' e t x i v = o0 E o e t x i v := by
 unfold o0
 cases E t with
 | none => rfl
 | some ii =>
  dsimp only
  cases ii.k <;> try rfl
  rename_i kt et
  dsimp only
  cases E kt with
  | none => rfl
  | some ki =>
   dsimp only
   cases hex : e x with
   | none => rfl
   | some r =>
    cases r with
    | tup l => rfl
    | v cc =>
     cases cc with
     | agg l => rfl
     | one h =>
      dsimp only
      have := fun kk m y => a9z (o := o) (o' := o') (h := h) (kk := kk) (m := m) (y := y) (fun k hk => ho k (en hex (by simp) k hk))
      simp only [this]
theorem aao {op : Op} (hx : ∀ x ∈ op.operands, e' x = e x) (ho : ∀ k ∈ cw e op.operands.toList, o' k = o k) : hs E o' e' op = hs E o e op := by
 cases op <;> try rfl
 case mapUpdate t x i v =>
  show o0 E o' e' t x i v = o0 E o e t x i v
  have h1 : o0 E o' e' t x i v = o0 E o' e t x i v := by unfold o0; rw [hx x (by simp [Op.operands]), hx i (by simp [Op.operands]), hx v (by simp [Op.operands])]
  rw [h1]
  refine acw fun k hk => ho k ?_
  simp only [cw, Op.operands, List.append_nil] at hk ⊢
  exact List.mem_append_left _ hk
 case store t addr v =>
  show j5 E o' e' t addr v = j5 E o e t addr v
  have h1 : j5 E o' e' t addr v = j5 E o' e t addr v := by unfold j5; rw [hx addr (by simp [Op.operands]), hx v (by simp [Op.operands])]
  rw [h1]
  exact a8i (by simpa [Op.operands] using ho)
theorem a1r {id : Nat} {h : HV} (ho : ∀ k ∈ h.ids, o' k = o k) : qz o' id h = qz o id h := by
 cases h with
 | p x =>
  cases x with
  | raw v =>
   cases v with
   | slice a n c => cases n <;> rfl
   | _ => rfl
  | _ => rfl
 | ref id' n => simp only [qz]; rw [ho id' (by simp [HV.ids])]
 | _ => rfl
theorem a21 {id n : Nat} {wb : Bool} {el : TypeId} {y : HV} (hid : o' id = o id) (ho : ∀ k ∈ y.ids, o' k = o k) : ui E o' id n wb el y = ui E o id n wb el y := by
 simp only [ui]
 rw [hid, a1r ho]
theorem a4o {id : Nat} {h : HV} (ho : ∀ k ∈ h.ids, o' k = o k) : zt o' id h = zt o id h := by
 simp only [zt]
 rw [a1r ho]
 cases h with
 | ref id' n => simp only; rw [ho id' (by simp [HV.ids])]
 | _ => rfl
theorem abr {id n : Nat} {el : TypeId} {y : HV} (hid : o' id = o id) (ho : ∀ k ∈ y.ids, o' k = o k) : sh E o' id n el y = sh E o id n el y := by
 simp only [sh]
 rw [hid, a4o ho]
theorem afk {id n : Nat} {el : TypeId} {y : HV} (hid : o' id = o id) (ho : ∀ k ∈ y.ids, o' k = o k) : a3h E o' id n el y = a3h E o id n el y := by
 simp only [a3h]
 rw [hid, a4o ho]
theorem adc {el : TypeId} {id n i k : Nat} {y : HV} (hid : o' id = o id) : xh E o' el id n i k y = xh E o el id n i k y := by
 unfold xh
 rw [hid]
theorem af8 {h : HV} {z : List Value} {n : Nat} (ho : ∀ k ∈ h.ids, o' k = o k) : a5k o' z n h = a5k o z n h := by
 cases h with
 | win id n i m => simp only [a5k]; rw [ho id (by simp [HV.ids])]
 | _ => rfl
theorem ad5 {id : Nat} {wb : Bool} {el : TypeId} {hy hx : HV} (h1 : ∀ k ∈ hx.ids, o' k = o k) (h2 : ∀ k ∈ hy.ids, o' k = o k) : ug E o' id wb el hy hx = ug E o id wb el hy hx := by
 cases hx with
 | win id1 n i k =>
  simp only [ug]
  exact adc (h1 id1 (by simp [HV.ids]))
 | ref id1 n =>
  simp only [ug]
  rw [a21 (o := o) (o' := o') (h1 id1 (by simp [HV.ids])) h2, abr (o := o) (o' := o') (h1 id1 (by simp [HV.ids])) h2, afk (o := o) (o' := o') (h1 id1 (by simp [HV.ids])) h2]
 | p px =>
  cases px with
  | sl n sz cl f =>
   cases cl with
   | false => rfl
   | true =>
    simp only [ug]
    cases E el with
    | none => rfl
    | some ei =>
     dsimp only
     rw [a21 (o := fun k => if k = id then some (ai.arr false ei.size el n f) else o k) (o' := fun k => if k = id then some (ai.arr false ei.size el n f) else o' k) (by simp) (fun k hk => by
      try dsimp only
      split
      · rfl
      · exact h2 k hk)]
  | _ => rfl
 | _ => rfl
theorem ada {id : Nat} {wb : Bool} {t : TypeId} {x y : Option HR} (hx : ∀ r, x = some r → ∀ k ∈ r.ids, o' k = o k) (hy : ∀ r, y = some r → ∀ k ∈ r.ids, o' k = o k) :
 a1f E o' id wb t x y = a1f E o id wb t x y := by
 unfold a1f
 cases E t with
 | none => rfl
 | some i =>
  dsimp only
  cases i.k <;> try rfl
  rename_i el
  cases x with
  | none => rfl
  | some rx =>
   cases rx with
   | tup l => rfl
   | v cx =>
    cases cx with
    | agg l => rfl
    | one hxv =>
     cases y with
     | none => rfl
     | some ry =>
      cases ry with
      | tup l => rfl
      | v cy =>
       cases cy with
       | agg l => rfl
       | one hyv => exact ad5 (hx _ rfl) (hy _ rfl)
theorem akd {op : Op} {id : Nat} {wb : Bool} (hx : ∀ x ∈ op.operands, e' x = e x) (ho : ∀ k ∈ cw e op.operands.toList, o' k = o k) : hap E o' e' id wb op = hap E o e id wb op := by
 cases op <;> try rfl
 case call c =>
  unfold hap
  dsimp only
  split
  · rename_i hc
    simp only [Op.operands, Call.operands, hc] at hx ho
    have h1 : ∀ x ∈ c.args.toList, e' x = e x := fun x hm => hx x (by simpa using hm)
    have h2 : ∀ k ∈ cw e c.args.toList, o' k = o k := fun k hk => ho k (by simpa using hk)
    generalize c.args.toList = l at h1 h2
    unfold a1a
    split
    · rename_i x y t t' _
      split
      · rw [h1 x (by simp), h1 y (by simp)]
        exact ada (fun r hr k hk => h2 k (en hr (by simp) k hk)) (fun r hr k hk => h2 k (en hr (by simp) k hk))
      · rfl
    · rfl
  · rename_i hc
    simp only [Op.operands, Call.operands, hc] at hx ho
    have h1 : ∀ x ∈ c.args.toList, e' x = e x := fun x hm => hx x (by simpa using hm)
    have h2 : ∀ k ∈ cw e c.args.toList, o' k = o k := fun k hk => ho k (by simpa using hk)
    generalize c.args.toList = l at h1 h2
    unfold su
    split
    · rename_i x t _
      rw [h1 x (by simp)]
      cases E t with
      | none => rfl
      | some ti =>
       dsimp only
       cases ti.k <;> try rfl
       rename_i el
       dsimp only
       cases E el with
       | none => rfl
       | some ei =>
        dsimp only
        cases ei.zero with
        | none => rfl
        | some z =>
         dsimp only
         split
         · cases hex : e x with
           | none => rfl
           | some r =>
            cases r with
            | tup l => rfl
            | v cc =>
             cases cc with
             | agg l => rfl
             | one hv => exact af8 fun k hk => h2 k (en hex (by simp) k hk)
         · rfl
    · rfl
  · rfl
theorem a2c {h : HV} (ho : ∀ k ∈ h.ids, o' k = o k) : xt o' h = xt o h := by
 cases h with
 | ref id n => simp only [xt]; rw [ho id (by simp [HV.ids])]
 | _ => rfl
end
end Go.Hx
end
