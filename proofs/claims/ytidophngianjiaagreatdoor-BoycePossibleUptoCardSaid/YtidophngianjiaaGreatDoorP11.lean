/- A part of the proof: lemmas for the theorem of this claim, merged by a program of ours out of Hx11. -/
import Derived.Test.YtidophngianjiaaGreatDoorP10
set_option linter.all false
section
namespace Go.Hx
open Go.RowKit
section
variable {E : Env} {ex : Bool} {o o' : Objs} {e e' : Ev}
theorem mem_opIds {x : Operand} {r : HR} (hx : e x = some r) : ∀ {l : List Operand}, x ∈ l → ∀ k ∈ r.ids, k ∈ opIds e l
 | y :: l, hm, k, hk => by
  rcases List.mem_cons.1 hm with rfl | hm
  · simp only [opIds, hx]; exact List.mem_append_left _ hk
  · simp only [opIds]; exact List.mem_append_right _ (mem_opIds hx hm k hk)
theorem opIds_congr : ∀ {l : List Operand}, (∀ x ∈ l, e' x = e x) → opIds e' l = opIds e l
 | [], _ => rfl
 | x :: l, h => by
  simp only [opIds]
  rw [h x (by simp), opIds_congr fun y hy => h y (by simp [hy])]
theorem tgt_congr {h : HV} (ho : ∀ k ∈ h.ids, o' k = o k) : tgt o' h = tgt o h := by
 cases h with
 | p x => cases x <;> rfl
 | ref id n => rfl
 | ptr id off => simp only [tgt]; rw [ho id (by simp [HV.ids])]
 | eptr id n i j => simp only [tgt]; rw [ho id (by simp [HV.ids])]
 | win id n i m => rfl
 | clo g k caps => rfl
 | row id i k => rfl
 | rptr id i k r j => simp only [tgt]; rw [ho id (by simp [HV.ids])]
theorem fillH_congr {places : List (Nat × Nat)} : ∀ {parts : List (Nat × Operand)} {cells : List HV}, (∀ x ∈ parts.map (·.2), e' x = e x) → fillH e' places cells parts = fillH e places cells parts
 | [], _, _ => rfl
 | (i, x) :: r, cells, h => by
  have hx := h x (by simp)
  have ih : ∀ cells, fillH e' places cells r = fillH e places cells r := fun cells => fillH_congr fun y hy => h y (by simp at hy ⊢; exact .inr hy)
  simp only [fillH, hx, ih]
theorem pvsOf_congr : ∀ {l : List Operand}, (∀ x ∈ l, e' x = e x) → pvsOf e' l = pvsOf e l
 | [], _ => rfl
 | x :: l, h => by
  simp only [pvsOf]
  rw [h x (by simp), pvsOf_congr fun y hy => h y (by simp [hy])]
theorem hvsOf_congr : ∀ {l : List Operand}, (∀ x ∈ l, e' x = e x) → hvsOf e' l = hvsOf e l
 | [], _ => rfl
 | x :: l, h => by
  simp only [hvsOf]
  rw [h x (by simp), hvsOf_congr fun y hy => h y (by simp [hy])]
theorem optInt_congr {x : Option Operand} (h : ∀ y ∈ x.toList, e' y = e y) : optInt e' x = optInt e x := by
 cases x with
 | none => rfl
 | some y => simp only [optInt]; rw [h y (by simp)]
theorem hqBuiltin_congr {b : Builtin} {args : List Operand} {tys : List TypeId} (h : ∀ x ∈ args, e' x = e x) : hqBuiltin E e' b args tys = hqBuiltin E e b args tys := by
 unfold hqBuiltin
 split
 · rename_i x t r
   rw [h x (by simp)]
 · rename_i x y
   rw [h x (by simp), h y (by simp)]
 · rename_i x y
   rw [h x (by simp), h y (by simp)]
 · rfl
theorem lenV_congr {h : HV} (ho : ∀ k ∈ h.ids, o' k = o k) : lenV o' h = lenV o h := by
 cases h with
 | ref id n => simp only [lenV]; rw [ho id (by simp [HV.ids])]
 | win id n i m => simp only [lenV]; rw [ho id (by simp [HV.ids])]
 | row id i k => simp only [lenV]; rw [ho id (by simp [HV.ids])]
 | _ => rfl
theorem idxV_congr {h : HV} {n : Nat} {i : Int} (ho : ∀ k ∈ h.ids, o' k = o k) : idxV o' n i h = idxV o n i h := by
 cases h with
 | ref id n => simp only [idxV]; rw [ho id (by simp [HV.ids])]
 | win id n i m => simp only [idxV]; rw [ho id (by simp [HV.ids])]
 | row id i k => simp only [idxV]; rw [ho id (by simp [HV.ids])]
 | p x => cases x <;> rfl
 | _ => rfl
theorem hqWinH_congr {h : HV} {n : Nat} {x y z : Option Int} (ho : ∀ k ∈ h.ids, o' k = o k) : hqWinH o' n x y z h = hqWinH o n x y z h := by
 cases h with
 | ref id n => simp only [hqWinH]; rw [ho id (by simp [HV.ids])]
 | win id n i m => simp only [hqWinH]; rw [ho id (by simp [HV.ids])]
 | _ => rfl
theorem one_congr {x : Operand} {l : List Operand} {F : Objs → HV → Option Out} {α : Type} {d : α} {G : Option Out → α} (hF : ∀ h : HV, (∀ k ∈ h.ids, o' k = o k) → F o' h = F o h) (hl : x ∈ l) (ho : ∀ k ∈ opIds e l, o' k = o k) :
 (match e x with | some (.v (.one h)) => G (F o' h) | _ => d) = (match e x with | some (.v (.one h)) => G (F o h) | _ => d) := by
 cases hex : e x with
 | none => rfl
 | some r =>
  cases r with
  | tup l => rfl
  | v cc =>
   cases cc with
   | agg l => rfl
   | one h =>
    dsimp only
    rw [hF h fun k hk => ho k (mem_opIds hex hl k hk)]
theorem hqLenRef_congr {b : Builtin} {args : List Operand} {tys : List TypeId} (h : ∀ x ∈ args, e' x = e x) (ho : ∀ k ∈ opIds e args, o' k = o k) : hqLenRef E o' e' b args tys = hqLenRef E o e b args tys := by
 unfold hqLenRef
 split
 · rename_i x t r
   rw [h x (by simp)]
   cases E t with
   | none => rfl
   | some ti =>
    dsimp only
    cases ti.k <;> try rfl
    exact one_congr (G := id) (F := lenV) (fun h hh => lenV_congr hh) (by simp) ho
 · rfl
theorem hqNil_congr {x : Operand} (ho : ∀ k ∈ opIds e [x], o' k = o k) : hqNil o' e x = hqNil o e x := by
 unfold hqNil
 cases hex : e x with
 | none => rfl
 | some r =>
  cases r with
  | tup l => rfl
  | v cc =>
   cases cc with
   | agg l => rfl
   | one h =>
    have := tgt_congr (o := o) (o' := o') (h := h) (fun k hk => ho k (mem_opIds hex (by simp) k hk))
    cases h with
    | p x => cases x <;> rfl
    | ref id n => rfl
    | ptr id off => dsimp only; rw [this]
    | eptr id n i j => dsimp only; rw [this]
    | win id n i m => rfl
    | clo g k caps => rfl
    | row id i k => rfl
    | rptr id i k r j => dsimp only; rw [this]
theorem hqLoad_congr {t : TypeId} {x : Operand} (ho : ∀ k ∈ opIds e [x], o' k = o k) : hqLoad E o' e t x = hqLoad E o e t x := by
 unfold hqLoad
 cases E t with
 | none => rfl
 | some i =>
  dsimp only
  cases hex : e x with
  | none => rfl
  | some r =>
   cases r with
   | tup l => rfl
   | v cc =>
    cases cc with
    | agg l => rfl
    | one h =>
     dsimp only
     rw [tgt_congr (o := o) (o' := o') (h := h) (fun k hk => ho k (mem_opIds hex (by simp) k hk))]
theorem hqFieldAddr_congr {t : TypeId} {x : Operand} {k : Nat} (ho : ∀ k ∈ opIds e [x], o' k = o k) : hqFieldAddr E o' e t x k = hqFieldAddr E o e t x k := by
 unfold hqFieldAddr
 cases E t with
 | none => rfl
 | some i =>
  dsimp only
  cases i.k <;> try rfl
  rename_i fs
  dsimp only
  cases fs[k]? with
  | none => rfl
  | some q =>
   obtain ⟨off, ft, bl⟩ := q
   dsimp only
   cases E ft with
   | none => rfl
   | some fi =>
    dsimp only
    cases hex : e x with
    | none => rfl
    | some r =>
     cases r with
     | tup l => rfl
     | v cc =>
      cases cc with
      | agg l => rfl
      | one h =>
       dsimp only
       rw [tgt_congr (o := o) (o' := o') (h := h) (fun k hk => ho k (mem_opIds hex (by simp) k hk))]
theorem hqIndexArr_congr {len : Nat} {el : TypeId} {x i : Operand} (ho : ∀ k ∈ opIds e [x], o' k = o k) : hqIndexArr E o' e len el x i = hqIndexArr E o e len el x i := by
 unfold hqIndexArr
 cases E el with
 | none => rfl
 | some ei =>
  dsimp only
  cases hex : e x with
  | none => rfl
  | some r =>
   cases r with
   | tup l => rfl
   | v cc =>
    cases cc with
    | agg l => rfl
    | one h =>
     dsimp only
     rw [tgt_congr (o := o) (o' := o') (h := h) (fun k hk => ho k (mem_opIds hex (by simp) k hk))]
theorem hqIndexAddr_congr {t : TypeId} {x i : Operand} (ho : ∀ k ∈ opIds e [x], o' k = o k) : hqIndexAddr E o' e t x i = hqIndexAddr E o e t x i := by
 unfold hqIndexAddr
 cases E t with
 | none => rfl
 | some ii =>
  dsimp only
  cases ii.k <;> try rfl
  case array len el => exact hqIndexArr_congr ho
  rename_i el
  dsimp only
  cases E el with
  | none => rfl
  | some ei =>
   dsimp only
   cases hex : e x with
   | none => rfl
   | some r =>
    cases r with
    | tup l => rfl
    | v cc =>
     cases cc with
     | agg l => rfl
     | one h =>
      dsimp only
      have := fun iv => idxV_congr (o := o) (o' := o') (h := h) (n := ei.size) (i := iv) (fun k hk => ho k (mem_opIds hex (by simp) k hk))
      simp only [this]
theorem lookV_congr {h : HV} {kk : KK} {m : MK} {z : Value} {cm : Bool} (ho : ∀ k ∈ h.ids, o' k = o k) : lookV o' kk m z cm h = lookV o kk m z cm h := by
 cases h with
 | ref id n => simp only [lookV]; rw [ho id (by simp [HV.ids])]
 | _ => rfl
theorem hqLookup_congr {t : TypeId} {x i : Operand} {cm : Bool} (ho : ∀ k ∈ opIds e [x], o' k = o k) : hqLookup E o' e t x i cm = hqLookup E o e t x i cm := by
 unfold hqLookup
 cases E t with
 | none => rfl
 | some ii =>
  dsimp only
  cases ii.k <;> try rfl
  rename_i kt et
  dsimp only
  cases lookK E kt et with
  | none => rfl
  | some q =>
   obtain ⟨kk, z⟩ := q
   dsimp only
   cases hex : e x with
   | none => rfl
   | some r =>
    cases r with
    | tup l => rfl
    | v cc =>
     cases cc with
     | agg l => rfl
     | one h =>
      dsimp only
      have := fun m => lookV_congr (o := o) (o' := o') (h := h) (kk := kk) (m := m) (z := z) (cm := cm) (fun k hk => ho k (mem_opIds hex (by simp) k hk))
      simp only [this]
theorem hq_congr {op : Op} (hx : ∀ x ∈ op.operands, e' x = e x) (ho : ∀ k ∈ opIds e op.operands.toList, o' k = o k) : hq E ex o' e' op = hq E ex o e op := by
 cases op <;> try rfl
 case move x => show Option.map _ (e' x) = Option.map _ (e x); rw [hx x (by simp [Op.operands])]
 case assign x => show Option.map _ (e' x) = Option.map _ (e x); rw [hx x (by simp [Op.operands])]
 case pick c x y =>
  show hqPick e' c x y = hqPick e c x y
  unfold hqPick
  rw [hx c (by simp [Op.operands]), hx x (by simp [Op.operands]), hx y (by simp [Op.operands])]
 case nilCheck x =>
  show hqNil o' e' x = hqNil o e x
  have h1 : hqNil o' e' x = hqNil o' e x := by unfold hqNil; rw [hx x (by simp [Op.operands])]
  rw [h1]
  exact hqNil_congr (by simpa [Op.operands] using ho)
 case load t x =>
  show hqLoad E o' e' t x = hqLoad E o e t x
  have h1 : hqLoad E o' e' t x = hqLoad E o' e t x := by unfold hqLoad; rw [hx x (by simp [Op.operands])]
  rw [h1]
  exact hqLoad_congr (by simpa [Op.operands] using ho)
 case fieldAddr t x k =>
  show hqFieldAddr E o' e' t x k = hqFieldAddr E o e t x k
  have h1 : hqFieldAddr E o' e' t x k = hqFieldAddr E o' e t x k := by unfold hqFieldAddr; rw [hx x (by simp [Op.operands])]
  rw [h1]
  exact hqFieldAddr_congr (by simpa [Op.operands] using ho)
 case field t x k =>
  show hqField E e' t x k = hqField E e t x k
  unfold hqField
  rw [hx x (by simp [Op.operands])]
 case indexAddr t x i =>
  show hqIndexAddr E o' e' t x i = hqIndexAddr E o e t x i
  have h1 : hqIndexAddr E o' e' t x i = hqIndexAddr E o' e t x i := by unfold hqIndexAddr hqIndexArr; rw [hx x (by simp [Op.operands]), hx i (by simp [Op.operands])]
  rw [h1]
  refine hqIndexAddr_congr fun k hk => ho k ?_
  simp only [opIds, Op.operands, List.append_nil] at hk ⊢
  exact List.mem_append_left _ hk
 case lookup t x i cm =>
  show hqLookup E o' e' t x i cm = hqLookup E o e t x i cm
  have h1 : hqLookup E o' e' t x i cm = hqLookup E o' e t x i cm := by unfold hqLookup; rw [hx x (by simp [Op.operands]), hx i (by simp [Op.operands])]
  rw [h1]
  refine hqLookup_congr fun k hk => ho k ?_
  simp only [opIds, Op.operands, List.append_nil] at hk ⊢
  exact List.mem_append_left _ hk
 case index t x i =>
  show hqIndex E e' t x i = hqIndex E e t x i
  unfold hqIndex
  rw [hx x (by simp [Op.operands]), hx i (by simp [Op.operands])]
 case binOp op t x y ty =>
  have h1 : hqBin E ex e' op t x y = hqBin E ex e op t x y := by
   unfold hqBin
   rw [hx x (by simp [Op.operands]), hx y (by simp [Op.operands])]
  have h2 : hqNilCmp E e' op t x y = hqNilCmp E e op t x y := by
   unfold hqNilCmp
   rw [hx x (by simp [Op.operands])]
  simp only [hq]
  rw [h1, h2]
 case unOp op t x =>
  show hqUn ex e' op x = hqUn ex e op x
  unfold hqUn
  rw [hx x (by simp [Op.operands])]
 case convert src dst x =>
  show hqConv E ex e' src dst x = hqConv E ex e src dst x
  unfold hqConv
  rw [hx x (by simp [Op.operands])]
 case extract x i =>
  show hqExtract e' x i = hqExtract e x i
  unfold hqExtract
  rw [hx x (by simp [Op.operands])]
 case slice t x lo hi mx =>
  have e0 := hx x (by simp [Op.operands])
  have e1 := optInt_congr (e := e) (e' := e') (x := lo) (fun y hy => hx y (by simp [Op.operands]; simp at hy; simp [hy]))
  have e2 := optInt_congr (e := e) (e' := e') (x := hi) (fun y hy => hx y (by simp [Op.operands]; simp at hy; simp [hy]))
  have e3 := optInt_congr (e := e) (e' := e') (x := mx) (fun y hy => hx y (by simp [Op.operands]; simp at hy; simp [hy]))
  have h1 : hqSlice E e' t x lo hi mx = hqSlice E e t x lo hi mx := by
   unfold hqSlice
   rw [e0, e1, e2, e3]
  have h2 : hqWin E o' e' t x lo hi mx = hqWin E o e t x lo hi mx := by
   unfold hqWin
   rw [e0, e1, e2, e3]
   cases E t with
   | none => rfl
   | some ti =>
    dsimp only
    cases ti.k <;> try rfl
    rename_i el
    dsimp only
    cases E el with
    | none => rfl
    | some ei =>
     dsimp only
     cases optInt e lo with
     | none => rfl
     | some l =>
      cases optInt e hi with
      | none => rfl
      | some hh =>
       cases optInt e mx with
       | none => rfl
       | some m =>
        dsimp only
        exact one_congr (G := id) (F := fun o h => hqWinH o ei.size l hh m h) (fun h hh => hqWinH_congr hh) (l := (Op.slice t x lo hi mx).operands.toList) (by simp [Op.operands]) ho
  simp only [hq]
  rw [h1, h2]
 case makeFunc fn first caps =>
  show hqFunc e' fn first.toList caps.toList = hqFunc e fn first.toList caps.toList
  unfold hqFunc
  rw [pvsOf_congr (l := caps.toList) (fun y hy => hx y (by simp [Op.operands]; simp at hy; exact .inr hy)), hvsOf_congr (l := caps.toList) (fun y hy => hx y (by simp [Op.operands]; simp at hy; exact .inr hy))]
 case build t parts =>
  show hqBuild E e' t parts.toList = hqBuild E e t parts.toList
  have hf : ∀ places cells, fillH e' places cells parts.toList = fillH e places cells parts.toList := fun places cells => fillH_congr fun x hm => hx x (by simpa [Op.operands] using hm)
  unfold hqBuild
  simp only [hf]
 case call c =>
  simp only [hq]
  cases hc : c.callee with
  | value f => rfl
  | invoke r m => rfl
  | builtin b =>
   simp only [Op.operands, Call.operands, hc] at hx ho
   have h1 : ∀ x ∈ c.args.toList, e' x = e x := fun x hm => hx x (by simpa using hm)
   have h2 : ∀ k ∈ opIds e c.args.toList, o' k = o k := fun k hk => ho k (by simpa using hk)
   dsimp only
   rw [hqBuiltin_congr h1, hqLenRef_congr h1 h2]
theorem ha_congr {op : Op} {id : Nat} (hx : ∀ x ∈ op.operands, e' x = e x) : ha E e' id op = ha E e id op := by
 cases op <;> simp only [ha] <;> simp only [Op.operands] at hx
 case box t x => rw [hx x (by simp)]
 case buildSlice t n parts =>
  have hf : ∀ sz cells, mulList e' sz n parts.toList cells = mulList e sz n parts.toList cells := fun sz cells => by
   unfold mulList
   exact fillH_congr fun x hm => hx x (by simpa using hm)
  simp only [hf]
 case makeSlice t l c => rw [hx l (by simp), hx c (by simp)]
theorem hsStore_congr {t : TypeId} {x y : Operand} (ho : ∀ k ∈ opIds e [x, y], o' k = o k) : hsStore E o' e t x y = hsStore E o e t x y := by
 unfold hsStore
 cases E t with
 | none => rfl
 | some i =>
  cases hv : e y with
  | none => rfl
  | some rv =>
   cases rv with
   | tup l => rfl
   | v cv =>
    cases hex : e x with
    | none => rfl
    | some r =>
     cases r with
     | tup l => rfl
     | v cc =>
      cases cc with
      | agg l => rfl
      | one h =>
       cases h with
       | p x => cases x <;> rfl
       | ref id n => rfl
       | ptr id off => dsimp only; rw [ho id (mem_opIds hex (by simp) id (by simp [HR.ids, HC.ids, HV.ids]))]
       | eptr id n r j => dsimp only; rw [ho id (mem_opIds hex (by simp) id (by simp [HR.ids, HC.ids, HV.ids]))]
       | win id n i m => rfl
       | clo g k caps => rfl
       | row id i k => rfl
       | rptr id i k r j => dsimp only; rw [ho id (mem_opIds hex (by simp) id (by simp [HR.ids, HC.ids, HV.ids]))]
theorem hsMapV_congr {h : HV} {kk : KK} {m : MK} {y : PV} (ho : ∀ k ∈ h.ids, o' k = o k) : hsMapV o' kk m y h = hsMapV o kk m y h := by
 cases h with
 | ref id n => simp only [hsMapV]; rw [ho id (by simp [HV.ids])]
 | _ => rfl
theorem hsMap_congr {t : TypeId} {x i v : Operand} (ho : ∀ k ∈ opIds e [x], o' k = o k) : hsMap E o' e t x i v = hsMap E o e t x i v := by
 unfold hsMap
 cases E t with
 | none => rfl
 | some ii =>
  dsimp only
  cases ii.k <;> try rfl
  rename_i kt et
  dsimp only
  cases E kt with
  | none => rfl
  | some ki =>
   dsimp only
   cases hex : e x with
   | none => rfl
   | some r =>
    cases r with
    | tup l => rfl
    | v cc =>
     cases cc with
     | agg l => rfl
     | one h =>
      dsimp only
      have := fun kk m y => hsMapV_congr (o := o) (o' := o') (h := h) (kk := kk) (m := m) (y := y) (fun k hk => ho k (mem_opIds hex (by simp) k hk))
      simp only [this]
theorem hs_congr {op : Op} (hx : ∀ x ∈ op.operands, e' x = e x) (ho : ∀ k ∈ opIds e op.operands.toList, o' k = o k) : hs E o' e' op = hs E o e op := by
 cases op <;> try rfl
 case mapUpdate t x i v =>
  show hsMap E o' e' t x i v = hsMap E o e t x i v
  have h1 : hsMap E o' e' t x i v = hsMap E o' e t x i v := by unfold hsMap; rw [hx x (by simp [Op.operands]), hx i (by simp [Op.operands]), hx v (by simp [Op.operands])]
  rw [h1]
  refine hsMap_congr fun k hk => ho k ?_
  simp only [opIds, Op.operands, List.append_nil] at hk ⊢
  exact List.mem_append_left _ hk
 case store t addr v =>
  show hsStore E o' e' t addr v = hsStore E o e t addr v
  have h1 : hsStore E o' e' t addr v = hsStore E o' e t addr v := by unfold hsStore; rw [hx addr (by simp [Op.operands]), hx v (by simp [Op.operands])]
  rw [h1]
  exact hsStore_congr (by simpa [Op.operands] using ho)
theorem srcOf_congr {id : Nat} {h : HV} (ho : ∀ k ∈ h.ids, o' k = o k) : srcOf o' id h = srcOf o id h := by
 cases h with
 | p x =>
  cases x with
  | raw v =>
   cases v with
   | slice a n c => cases n <;> rfl
   | _ => rfl
  | _ => rfl
 | ref id' n => simp only [srcOf]; rw [ho id' (by simp [HV.ids])]
 | _ => rfl
theorem hapTo_congr {id n : Nat} {wb : Bool} {el : TypeId} {y : HV} (hid : o' id = o id) (ho : ∀ k ∈ y.ids, o' k = o k) : hapTo E o' id n wb el y = hapTo E o id n wb el y := by
 simp only [hapTo]
 rw [hid, srcOf_congr ho]
theorem srcH_congr {id : Nat} {h : HV} (ho : ∀ k ∈ h.ids, o' k = o k) : srcH o' id h = srcH o id h := by
 simp only [srcH]
 rw [srcOf_congr ho]
 cases h with
 | ref id' n => simp only; rw [ho id' (by simp [HV.ids])]
 | _ => rfl
theorem hapHTo_congr {id n : Nat} {el : TypeId} {y : HV} (hid : o' id = o id) (ho : ∀ k ∈ y.ids, o' k = o k) : hapHTo E o' id n el y = hapHTo E o id n el y := by
 simp only [hapHTo]
 rw [hid, srcH_congr ho]
theorem hapN_congr {id n : Nat} {el : TypeId} {y : HV} (hid : o' id = o id) (ho : ∀ k ∈ y.ids, o' k = o k) : hapN E o' id n el y = hapN E o id n el y := by
 simp only [hapN]
 rw [hid, srcH_congr ho]
theorem hapMv_congr {el : TypeId} {id n i k : Nat} {y : HV} (hid : o' id = o id) : hapMv E o' el id n i k y = hapMv E o el id n i k y := by
 unfold hapMv
 rw [hid]
theorem hapZ_congr {h : HV} {z : List Value} {n : Nat} (ho : ∀ k ∈ h.ids, o' k = o k) : hapZ o' z n h = hapZ o z n h := by
 cases h with
 | win id n i m => simp only [hapZ]; rw [ho id (by simp [HV.ids])]
 | _ => rfl
theorem hapVV_congr {id : Nat} {wb : Bool} {el : TypeId} {hy hx : HV} (h1 : ∀ k ∈ hx.ids, o' k = o k) (h2 : ∀ k ∈ hy.ids, o' k = o k) : hapVV E o' id wb el hy hx = hapVV E o id wb el hy hx := by
 cases hx with
 | win id1 n i k =>
  simp only [hapVV]
  exact hapMv_congr (h1 id1 (by simp [HV.ids]))
 | ref id1 n =>
  simp only [hapVV]
  rw [hapTo_congr (o := o) (o' := o') (h1 id1 (by simp [HV.ids])) h2, hapHTo_congr (o := o) (o' := o') (h1 id1 (by simp [HV.ids])) h2, hapN_congr (o := o) (o' := o') (h1 id1 (by simp [HV.ids])) h2]
 | p px =>
  cases px with
  | sl n sz cl f =>
   cases cl with
   | false => rfl
   | true =>
    simp only [hapVV]
    cases E el with
    | none => rfl
    | some ei =>
     dsimp only
     rw [hapTo_congr (o := fun k => if k = id then some (HObj.arr false ei.size el n f) else o k) (o' := fun k => if k = id then some (HObj.arr false ei.size el n f) else o' k) (by simp) (fun k hk => by
      try dsimp only
      split
      · rfl
      · exact h2 k hk)]
  | _ => rfl
 | _ => rfl
theorem hapXY_congr {id : Nat} {wb : Bool} {t : TypeId} {x y : Option HR} (hx : ∀ r, x = some r → ∀ k ∈ r.ids, o' k = o k) (hy : ∀ r, y = some r → ∀ k ∈ r.ids, o' k = o k) :
 hapXY E o' id wb t x y = hapXY E o id wb t x y := by
 unfold hapXY
 cases E t with
 | none => rfl
 | some i =>
  dsimp only
  cases i.k <;> try rfl
  rename_i el
  cases x with
  | none => rfl
  | some rx =>
   cases rx with
   | tup l => rfl
   | v cx =>
    cases cx with
    | agg l => rfl
    | one hxv =>
     cases y with
     | none => rfl
     | some ry =>
      cases ry with
      | tup l => rfl
      | v cy =>
       cases cy with
       | agg l => rfl
       | one hyv => exact hapVV_congr (hx _ rfl) (hy _ rfl)
theorem hap_congr {op : Op} {id : Nat} {wb : Bool} (hx : ∀ x ∈ op.operands, e' x = e x) (ho : ∀ k ∈ opIds e op.operands.toList, o' k = o k) : hap E o' e' id wb op = hap E o e id wb op := by
 cases op <;> try rfl
 case call c =>
  unfold hap
  dsimp only
  split
  · rename_i hc
    simp only [Op.operands, Call.operands, hc] at hx ho
    have h1 : ∀ x ∈ c.args.toList, e' x = e x := fun x hm => hx x (by simpa using hm)
    have h2 : ∀ k ∈ opIds e c.args.toList, o' k = o k := fun k hk => ho k (by simpa using hk)
    generalize c.args.toList = l at h1 h2
    unfold hapArgs
    split
    · rename_i x y t t' _
      split
      · rw [h1 x (by simp), h1 y (by simp)]
        exact hapXY_congr (fun r hr k hk => h2 k (mem_opIds hr (by simp) k hk)) (fun r hr k hk => h2 k (mem_opIds hr (by simp) k hk))
      · rfl
    · rfl
  · rename_i hc
    simp only [Op.operands, Call.operands, hc] at hx ho
    have h1 : ∀ x ∈ c.args.toList, e' x = e x := fun x hm => hx x (by simpa using hm)
    have h2 : ∀ k ∈ opIds e c.args.toList, o' k = o k := fun k hk => ho k (by simpa using hk)
    generalize c.args.toList = l at h1 h2
    unfold hapClear
    split
    · rename_i x t _
      rw [h1 x (by simp)]
      cases E t with
      | none => rfl
      | some ti =>
       dsimp only
       cases ti.k <;> try rfl
       rename_i el
       dsimp only
       cases E el with
       | none => rfl
       | some ei =>
        dsimp only
        cases ei.zero with
        | none => rfl
        | some z =>
         dsimp only
         split
         · cases hex : e x with
           | none => rfl
           | some r =>
            cases r with
            | tup l => rfl
            | v cc =>
             cases cc with
             | agg l => rfl
             | one hv => exact hapZ_congr fun k hk => h2 k (mem_opIds hex (by simp) k hk)
         · rfl
    · rfl
  · rfl
theorem viewV_congr {h : HV} (ho : ∀ k ∈ h.ids, o' k = o k) : viewV o' h = viewV o h := by
 cases h with
 | ref id n => simp only [viewV]; rw [ho id (by simp [HV.ids])]
 | _ => rfl
end
end Go.Hx
end
