/- A part of the proof: Hx11. -/
import Derived.Test.YtidophngianjiaaGreatDoor9x09
set_option linter.all false
section
namespace Go.Hx
open Go.RowKit
section
variable {E : Env} {ex : Bool} {o o' : b7} {e e' : Ev}
theorem dy {x : Operand} {r : HR} (hx : e x = some r) : ∀ {l : List Operand}, x ∈ l → ∀ k ∈ r.ids, k ∈ cw e l
 | y :: l, hm, k, hk => by
  rcases List.mem_cons.1 hm with rfl | hm
  · simp only [cw, hx]; exact List.mem_append_left _ hk
  · simp only [cw]; exact List.mem_append_right _ (dy hx hm k hk)
theorem ln : ∀ {l : List Operand}, (∀ x ∈ l, e' x = e x) → cw e' l = cw e l
 | [], _ => rfl
 | x :: l, h => by
  simp only [cw]
  rw [h x (by simp), ln fun y hy => h y (by simp [hy])]
theorem t8 {h : HV} (ho : ∀ k ∈ h.ids, o' k = o k) : tgt o' h = tgt o h := by
 cases h with
 | p x => cases x <;> rfl
 | ref id n => rfl
 | ptr id off => simp only [tgt]; rw [ho id (by simp [HV.ids])]
 | eptr id n i j => simp only [tgt]; rw [ho id (by simp [HV.ids])]
 | win id n i m => rfl
 | clo g k caps => rfl
 | row id i k => rfl
 | rptr id i k r j => simp only [tgt]; rw [ho id (by simp [HV.ids])]
 | pin id n ad cap => rfl
theorem tx {places : List (Nat × Nat)} : ∀ {parts : List (Nat × Operand)} {cells : List HV}, (∀ x ∈ parts.map (·.2), e' x = e x) → fh e' places cells parts = fh e places cells parts
 | [], _, _ => rfl
 | (i, x) :: r, cells, h => by
  have hx := h x (by simp)
  have ih : ∀ cells, fh e' places cells r = fh e places cells r := fun cells => tx fun y hy => h y (by simp at hy ⊢; exact .inr hy)
  simp only [fh, hx, ih]
theorem a1e : ∀ {l : List Operand}, (∀ x ∈ l, e' x = e x) → tv e' l = tv e l
 | [], _ => rfl
 | x :: l, h => by
  simp only [tv]
  rw [h x (by simp), a1e fun y hy => h y (by simp [hy])]
theorem a1a : ∀ {l : List Operand}, (∀ x ∈ l, e' x = e x) → ta e' l = ta e l
 | [], _ => rfl
 | x :: l, h => by
  simp only [ta]
  rw [h x (by simp), a1a fun y hy => h y (by simp [hy])]
theorem jh {x : Option Operand} (h : ∀ y ∈ x.toList, e' y = e y) : fq e' x = fq e x := by
 cases x with
 | none => rfl
 | some y => simp only [fq]; rw [h y (by simp)]
theorem a4r {b : Builtin} {args : List Operand} {tys : List TypeId} (h : ∀ x ∈ args, e' x = e x) : ml E e' b args tys = ml E e b args tys := by
 unfold ml
 split
 · rename_i x t r
   rw [h x (by simp)]
 · rename_i x y
   rw [h x (by simp), h y (by simp)]
 · rename_i x y
   rw [h x (by simp), h y (by simp)]
 · rfl
theorem ag6 {h : HV} (ho : ∀ k ∈ h.ids, o' k = o k) : xx o' h = xx o h := by
 cases h with
 | ref id n => simp only [xx]; rw [ho id (by simp [HV.ids])]
 | win id n i m => simp only [xx]; rw [ho id (by simp [HV.ids])]
 | row id i k => simp only [xx]; rw [ho id (by simp [HV.ids])]
 | _ => rfl
theorem afl {h : HV} {n : Nat} {i : Int} (ho : ∀ k ∈ h.ids, o' k = o k) : a23 o' n i h = a23 o n i h := by
 cases h with
 | ref id n => simp only [a23]; rw [ho id (by simp [HV.ids])]
 | win id n i m => simp only [a23]; rw [ho id (by simp [HV.ids])]
 | row id i k => simp only [a23]; rw [ho id (by simp [HV.ids])]
 | p x => cases x <;> rfl
 | _ => rfl
theorem aaq {h : HV} {n : Nat} {x y z : Option Int} (ho : ∀ k ∈ h.ids, o' k = o k) : sg o' n x y z h = sg o n x y z h := by
 cases h with
 | ref id n => simp only [sg]; rw [ho id (by simp [HV.ids])]
 | win id n i m => simp only [sg]; rw [ho id (by simp [HV.ids])]
 | _ => rfl
theorem a7k {x : Operand} {l : List Operand} {F : b7 → HV → Option Out} {α : Type} {d : α} {G : Option Out → α} (hF : ∀ h : HV, (∀ k ∈ h.ids, o' k = o k) → F o' h = F o h) (hl : x ∈ l) (ho : ∀ k ∈ cw e l, o' k = o k) :
 (match e x with | some (.v (.one h)) => G (F o' h) | _ => d) = (match e x with | some (.v (.one h)) => G (F o h) | _ => d) := by
 cases hex : e x with
 | none => rfl
 | some r =>
  cases r with
  | tup l => rfl
  | v cc =>
   cases cc with
   | agg l => rfl
   | one h =>
    dsimp only
    rw [hF h fun k hk => ho k (dy hex hl k hk)]
theorem a5b {b : Builtin} {args : List Operand} {tys : List TypeId} (h : ∀ x ∈ args, e' x = e x) (ho : ∀ k ∈ cw e args, o' k = o k) : oe E o' e' b args tys = oe E o e b args tys := by
 unfold oe
 split
 · rename_i x t r
   rw [h x (by simp)]
   cases E t with
   | none => rfl
   | some ti =>
    dsimp only
    cases ti.k <;> try rfl
    exact a7k (G := id) (F := xx) (fun h hh => ag6 hh) (by simp) ho
 · rfl
theorem ach {x : Operand} (ho : ∀ k ∈ cw e [x], o' k = o k) : lw o' e x = lw o e x := by
 unfold lw
 cases hex : e x with
 | none => rfl
 | some r =>
  cases r with
  | tup l => rfl
  | v cc =>
   cases cc with
   | agg l => rfl
   | one h =>
    have := t8 (o := o) (o' := o') (h := h) (fun k hk => ho k (dy hex (by simp) k hk))
    cases h with
    | p x => cases x <;> rfl
    | ref id n => rfl
    | ptr id off => dsimp only; rw [this]
    | eptr id n i j => dsimp only; rw [this]
    | win id n i m => rfl
    | clo g k caps => rfl
    | row id i k => rfl
    | rptr id i k r j => dsimp only; rw [this]
    | pin id n ad cap => rfl
theorem aav {t : TypeId} {x : Operand} (ho : ∀ k ∈ cw e [x], o' k = o k) : jg E o' e t x = jg E o e t x := by
 unfold jg
 cases E t with
 | none => rfl
 | some i =>
  dsimp only
  cases hex : e x with
  | none => rfl
  | some r =>
   cases r with
   | tup l => rfl
   | v cc =>
    cases cc with
    | agg l => rfl
    | one h =>
     dsimp only
     rw [t8 (o := o) (o' := o') (h := h) (fun k hk => ho k (dy hex (by simp) k hk))]
theorem a15 {t : TypeId} {x : Operand} {k : Nat} (ho : ∀ k ∈ cw e [x], o' k = o k) : en E o' e t x k = en E o e t x k := by
 unfold en
 cases E t with
 | none => rfl
 | some i =>
  dsimp only
  cases i.k <;> try rfl
  rename_i fs
  dsimp only
  cases fs[k]? with
  | none => rfl
  | some q =>
   obtain ⟨off, ft, bl⟩ := q
   dsimp only
   cases E ft with
   | none => rfl
   | some fi =>
    dsimp only
    cases hex : e x with
    | none => rfl
    | some r =>
     cases r with
     | tup l => rfl
     | v cc =>
      cases cc with
      | agg l => rfl
      | one h =>
       dsimp only
       rw [t8 (o := o) (o' := o') (h := h) (fun k hk => ho k (dy hex (by simp) k hk))]
theorem a2t {len : Nat} {el : TypeId} {x i : Operand} (ho : ∀ k ∈ cw e [x], o' k = o k) : jr E o' e len el x i = jr E o e len el x i := by
 unfold jr
 cases E el with
 | none => rfl
 | some ei =>
  dsimp only
  cases hex : e x with
  | none => rfl
  | some r =>
   cases r with
   | tup l => rfl
   | v cc =>
    cases cc with
    | agg l => rfl
    | one h =>
     dsimp only
     rw [t8 (o := o) (o' := o') (h := h) (fun k hk => ho k (dy hex (by simp) k hk))]
theorem a13 {t : TypeId} {x i : Operand} (ho : ∀ k ∈ cw e [x], o' k = o k) : f5 E o' e t x i = f5 E o e t x i := by
 unfold f5
 cases E t with
 | none => rfl
 | some ii =>
  dsimp only
  cases ii.k <;> try rfl
  case array len el => exact a2t ho
  rename_i el
  dsimp only
  cases E el with
  | none => rfl
  | some ei =>
   dsimp only
   cases hex : e x with
   | none => rfl
   | some r =>
    cases r with
    | tup l => rfl
    | v cc =>
     cases cc with
     | agg l => rfl
     | one h =>
      dsimp only
      have := fun iv => afl (o := o) (o' := o') (h := h) (n := ei.size) (i := iv) (fun k hk => ho k (dy hex (by simp) k hk))
      simp only [this]
theorem acu {h : HV} {kk : KK} {m : MK} {z : Value} {cm : Bool} (ho : ∀ k ∈ h.ids, o' k = o k) : a4f o' kk m z cm h = a4f o kk m z cm h := by
 cases h with
 | ref id n => simp only [a4f]; rw [ho id (by simp [HV.ids])]
 | _ => rfl
theorem a6m {t : TypeId} {x i : Operand} {cm : Bool} (ho : ∀ k ∈ cw e [x], o' k = o k) : i6 E o' e t x i cm = i6 E o e t x i cm := by
 unfold i6
 cases E t with
 | none => rfl
 | some ii =>
  dsimp only
  cases ii.k <;> try rfl
  rename_i kt et
  dsimp only
  cases aew E kt et with
  | none => rfl
  | some q =>
   obtain ⟨kk, z⟩ := q
   dsimp only
   cases hex : e x with
   | none => rfl
   | some r =>
    cases r with
    | tup l => rfl
    | v cc =>
     cases cc with
     | agg l => rfl
     | one h =>
      dsimp only
      have := fun m => acu (o := o) (o' := o') (h := h) (kk := kk) (m := m) (z := z) (cm := cm) (fun k hk => ho k (dy hex (by simp) k hk))
      simp only [this]
theorem amr {op : Op} (hx : ∀ x ∈ op.operands, e' x = e x) (ho : ∀ k ∈ cw e op.operands.toList, o' k = o k) : hq E ex o' e' op = hq E ex o e op := by
 cases op <;> try rfl
 case move x => show Option.map _ (e' x) = Option.map _ (e x); rw [hx x (by simp [Op.operands])]
 case assign x => show Option.map _ (e' x) = Option.map _ (e x); rw [hx x (by simp [Op.operands])]
 case pick c x y =>
  show vo e' c x y = vo e c x y
  unfold vo
  rw [hx c (by simp [Op.operands]), hx x (by simp [Op.operands]), hx y (by simp [Op.operands])]
 case nilCheck x =>
  show lw o' e' x = lw o e x
  have h1 : lw o' e' x = lw o' e x := by unfold lw; rw [hx x (by simp [Op.operands])]
  rw [h1]
  exact ach (by simpa [Op.operands] using ho)
 case load t x =>
  show jg E o' e' t x = jg E o e t x
  have h1 : jg E o' e' t x = jg E o' e t x := by unfold jg; rw [hx x (by simp [Op.operands])]
  rw [h1]
  exact aav (by simpa [Op.operands] using ho)
 case fieldAddr t x k =>
  show en E o' e' t x k = en E o e t x k
  have h1 : en E o' e' t x k = en E o' e t x k := by unfold en; rw [hx x (by simp [Op.operands])]
  rw [h1]
  exact a15 (by simpa [Op.operands] using ho)
 case field t x k =>
  show qv E e' t x k = qv E e t x k
  unfold qv
  rw [hx x (by simp [Op.operands])]
 case indexAddr t x i =>
  show f5 E o' e' t x i = f5 E o e t x i
  have h1 : f5 E o' e' t x i = f5 E o' e t x i := by unfold f5 jr; rw [hx x (by simp [Op.operands]), hx i (by simp [Op.operands])]
  rw [h1]
  refine a13 fun k hk => ho k ?_
  simp only [cw, Op.operands, List.append_nil] at hk ⊢
  exact List.mem_append_left _ hk
 case lookup t x i cm =>
  show i6 E o' e' t x i cm = i6 E o e t x i cm
  have h1 : i6 E o' e' t x i cm = i6 E o' e t x i cm := by unfold i6; rw [hx x (by simp [Op.operands]), hx i (by simp [Op.operands])]
  rw [h1]
  refine a6m fun k hk => ho k ?_
  simp only [cw, Op.operands, List.append_nil] at hk ⊢
  exact List.mem_append_left _ hk
 case index t x i =>
  show qj E e' t x i = qj E e t x i
  unfold qj
  rw [hx x (by simp [Op.operands]), hx i (by simp [Op.operands])]
 case binOp op t x y ty =>
  have h1 : a0x E ex e' op t x y = a0x E ex e op t x y := by
   unfold a0x
   rw [hx x (by simp [Op.operands]), hx y (by simp [Op.operands])]
  have h2 : o7 E e' op t x y = o7 E e op t x y := by
   unfold o7
   rw [hx x (by simp [Op.operands])]
  simp only [hq]
  rw [h1, h2]
 case unOp op t x =>
  show a5o ex e' op x = a5o ex e op x
  unfold a5o
  rw [hx x (by simp [Op.operands])]
 case convert src dst x =>
  show vi E ex e' src dst x = vi E ex e src dst x
  unfold vi
  rw [hx x (by simp [Op.operands])]
 case extract x i =>
  show n3 e' x i = n3 e x i
  unfold n3
  rw [hx x (by simp [Op.operands])]
 case slice t x lo hi mx =>
  have e0 := hx x (by simp [Op.operands])
  have e1 := jh (e := e) (e' := e') (x := lo) (fun y hy => hx y (by simp [Op.operands]; simp at hy; simp [hy]))
  have e2 := jh (e := e) (e' := e') (x := hi) (fun y hy => hx y (by simp [Op.operands]; simp at hy; simp [hy]))
  have e3 := jh (e := e) (e' := e') (x := mx) (fun y hy => hx y (by simp [Op.operands]; simp at hy; simp [hy]))
  have h1 : j0 E e' t x lo hi mx = j0 E e t x lo hi mx := by
   unfold j0
   rw [e0, e1, e2, e3]
  have h2 : a0y E o' e' t x lo hi mx = a0y E o e t x lo hi mx := by
   unfold a0y
   rw [e0, e1, e2, e3]
   cases E t with
   | none => rfl
   | some ti =>
    dsimp only
    cases ti.k <;> try rfl
    rename_i el
    dsimp only
    cases E el with
    | none => rfl
    | some ei =>
     dsimp only
     cases fq e lo with
     | none => rfl
     | some l =>
      cases fq e hi with
      | none => rfl
      | some hh =>
       cases fq e mx with
       | none => rfl
       | some m =>
        dsimp only
        exact a7k (G := id) (F := fun o h => sg o ei.size l hh m h) (fun h hh => aaq hh) (l := (Op.slice t x lo hi mx).operands.toList) (by simp [Op.operands]) ho
  simp only [hq]
  rw [h1, h2]
 case makeFunc fn first caps =>
  show uz e' fn first.toList caps.toList = uz e fn first.toList caps.toList
  unfold uz
  rw [a1e (l := caps.toList) (fun y hy => hx y (by simp [Op.operands]; simp at hy; exact .inr hy)), a1a (l := caps.toList) (fun y hy => hx y (by simp [Op.operands]; simp at hy; exact .inr hy))]
 case build t parts =>
  show qr E e' t parts.toList = qr E e t parts.toList
  have hf : ∀ places cells, fh e' places cells parts.toList = fh e places cells parts.toList := fun places cells => tx fun x hm => hx x (by simpa [Op.operands] using hm)
  unfold qr
  simp only [hf]
 case call c =>
  simp only [hq]
  cases hc : c.callee with
  | value f => rfl
  | invoke r m => rfl
  | builtin b =>
   simp only [Op.operands, Call.operands, hc] at hx ho
   have h1 : ∀ x ∈ c.args.toList, e' x = e x := fun x hm => hx x (by simpa using hm)
   have h2 : ∀ k ∈ cw e c.args.toList, o' k = o k := fun k hk => ho k (by simpa using hk)
   dsimp only
   rw [a4r h1, a5b h1 h2]
theorem alb {op : Op} {id : Nat} (hx : ∀ x ∈ op.operands, e' x = e x) : ha E e' id op = ha E e id op := by
 cases op <;> simp only [ha] <;> simp only [Op.operands] at hx
 case box t x => rw [hx x (by simp)]
 case buildSlice t n parts =>
  have hf : ∀ sz cells, a0r e' sz n parts.toList cells = a0r e sz n parts.toList cells := fun sz cells => by
   unfold a0r
   exact tx fun x hm => hx x (by simpa using hm)
  simp only [hf]
 case makeSlice t l c => rw [hx l (by simp), hx c (by simp)]
theorem a8f {t : TypeId} {x y : Operand} (ho : ∀ k ∈ cw e [x, y], o' k = o k) : iu E o' e t x y = iu E o e t x y := by
 unfold iu
 cases E t with
 | none => rfl
 | some i =>
  cases hv : e y with
  | none => rfl
  | some rv =>
   cases rv with
   | tup l => rfl
   | v cv =>
    cases hex : e x with
    | none => rfl
    | some r =>
     cases r with
     | tup l => rfl
     | v cc =>
      cases cc with
      | agg l => rfl
      | one h =>
       cases h with
       | p x => cases x <;> rfl
       | ref id n => rfl
       | ptr id off => dsimp only; rw [ho id (dy hex (by simp) id (by simp [HR.ids, HC.ids, HV.ids]))]
       | eptr id n r j => dsimp only; rw [ho id (dy hex (by simp) id (by simp [HR.ids, HC.ids, HV.ids]))]
       | win id n i m => rfl
       | clo g k caps => rfl
       | row id i k => rfl
       | rptr id i k r j => dsimp only; rw [ho id (dy hex (by simp) id (by simp [HR.ids, HC.ids, HV.ids]))]
       | pin id n ad cap => rfl
theorem abj {h : HV} {kk : KK} {m : MK} {y : PV} (ho : ∀ k ∈ h.ids, o' k = o k) : xv o' kk m y h = xv o kk m y h := by
 cases h with
 | ref id n => simp only [xv]; rw [ho id (by simp [HV.ids])]
 | _ => rfl
theorem acm {t : TypeId} {x i v : Operand} (ho : ∀ k ∈ cw e [x], o' k = o k) : nx E o' e t x i v = nx E o e t x i v := by
 unfold nx
 cases E t with
 | none => rfl
 | some ii =>
  dsimp only
  cases ii.k <;> try rfl
  rename_i kt et
  dsimp only
  cases E kt with
  | none => rfl
  | some ki =>
   dsimp only
   cases hex : e x with
   | none => rfl
   | some r =>
    cases r with
    | tup l => rfl
    | v cc =>
     cases cc with
     | agg l => rfl
     | one h =>
      dsimp only
      have := fun kk m y => abj (o := o) (o' := o') (h := h) (kk := kk) (m := m) (y := y) (fun k hk => ho k (dy hex (by simp) k hk))
      simp only [this]
theorem aa3 {op : Op} (hx : ∀ x ∈ op.operands, e' x = e x) (ho : ∀ k ∈ cw e op.operands.toList, o' k = o k) : hs E o' e' op = hs E o e op := by
 cases op <;> try rfl
 case mapUpdate t x i v =>
  show nx E o' e' t x i v = nx E o e t x i v
  have h1 : nx E o' e' t x i v = nx E o' e t x i v := by unfold nx; rw [hx x (by simp [Op.operands]), hx i (by simp [Op.operands]), hx v (by simp [Op.operands])]
  rw [h1]
  refine acm fun k hk => ho k ?_
  simp only [cw, Op.operands, List.append_nil] at hk ⊢
  exact List.mem_append_left _ hk
 case store t addr v =>
  show iu E o' e' t addr v = iu E o e t addr v
  have h1 : iu E o' e' t addr v = iu E o' e t addr v := by unfold iu; rw [hx addr (by simp [Op.operands]), hx v (by simp [Op.operands])]
  rw [h1]
  exact a8f (by simpa [Op.operands] using ho)
theorem a16 {id : Nat} {h : HV} (ho : ∀ k ∈ h.ids, o' k = o k) : qe o' id h = qe o id h := by
 cases h with
 | p x =>
  cases x with
  | raw v =>
   cases v with
   | slice a n c => cases n <;> rfl
   | _ => rfl
  | _ => rfl
 | ref id' n => simp only [qe]; rw [ho id' (by simp [HV.ids])]
 | _ => rfl
theorem u7 {id n : Nat} {wb : Bool} {el : TypeId} {y : HV} (hid : o' id = o id) (ho : ∀ k ∈ y.ids, o' k = o k) : m8 E o' id n wb el y = m8 E o id n wb el y := by
 simp only [m8]
 rw [hid, a16 ho]
theorem a47 {id : Nat} {h : HV} (ho : ∀ k ∈ h.ids, o' k = o k) : z6 o' id h = z6 o id h := by
 simp only [z6]
 rw [a16 ho]
 cases h with
 | ref id' n => simp only; rw [ho id' (by simp [HV.ids])]
 | _ => rfl
theorem a90 {id n : Nat} {el : TypeId} {y : HV} (hid : o' id = o id) (ho : ∀ k ∈ y.ids, o' k = o k) : s8 E o' id n el y = s8 E o id n el y := by
 simp only [s8]
 rw [hid, a47 ho]
theorem afu {id n : Nat} {el : TypeId} {y : HV} (hid : o' id = o id) (ho : ∀ k ∈ y.ids, o' k = o k) : a2k E o' id n el y = a2k E o id n el y := by
 simp only [a2k]
 rw [hid, a47 ho]
theorem ac1 {el : TypeId} {id n i k : Nat} {y : HV} (hid : o' id = o id) : x3 E o' el id n i k y = x3 E o el id n i k y := by
 unfold x3
 rw [hid]
theorem afn {h : HV} {z : List Value} {n : Nat} (ho : ∀ k ∈ h.ids, o' k = o k) : a5p o' z n h = a5p o z n h := by
 cases h with
 | win id n i m => simp only [a5p]; rw [ho id (by simp [HV.ids])]
 | _ => rfl
theorem acg {id : Nat} {wb : Bool} {el : TypeId} {hy hx : HV} (h1 : ∀ k ∈ hx.ids, o' k = o k) (h2 : ∀ k ∈ hy.ids, o' k = o k) : pz E o' id wb el hy hx = pz E o id wb el hy hx := by
 cases hx with
 | win id1 n i k =>
  simp only [pz]
  exact ac1 (h1 id1 (by simp [HV.ids]))
 | pin id1 n ad cap =>
  simp only [pz]
  rw [u7 (o := o) (o' := o') (h1 id1 (by simp [HV.ids])) h2]
 | ref id1 n =>
  simp only [pz]
  rw [u7 (o := o) (o' := o') (h1 id1 (by simp [HV.ids])) h2, a90 (o := o) (o' := o') (h1 id1 (by simp [HV.ids])) h2, afu (o := o) (o' := o') (h1 id1 (by simp [HV.ids])) h2]
 | p px =>
  cases px with
  | sl n sz cl f =>
   cases cl with
   | false => rfl
   | true =>
    simp only [pz]
    cases E el with
    | none => rfl
    | some ei =>
     dsimp only
     rw [u7 (o := fun k => if k = id then some (aj.arr false ei.size el n f) else o k) (o' := fun k => if k = id then some (aj.arr false ei.size el n f) else o' k) (by simp) (fun k hk => by
      try dsimp only
      split
      · rfl
      · exact h2 k hk)]
  | _ => rfl
 | _ => rfl
theorem acj {id : Nat} {wb : Bool} {t : TypeId} {x y : Option HR} (hx : ∀ r, x = some r → ∀ k ∈ r.ids, o' k = o k) (hy : ∀ r, y = some r → ∀ k ∈ r.ids, o' k = o k) :
 a0j E o' id wb t x y = a0j E o id wb t x y := by
 unfold a0j
 cases E t with
 | none => rfl
 | some i =>
  dsimp only
  cases i.k <;> try rfl
  rename_i el
  cases x with
  | none => rfl
  | some rx =>
   cases rx with
   | tup l => rfl
   | v cx =>
    cases cx with
    | agg l => rfl
    | one hxv =>
     cases y with
     | none => rfl
     | some ry =>
      cases ry with
      | tup l => rfl
      | v cy =>
       cases cy with
       | agg l => rfl
       | one hyv => exact acg (hx _ rfl) (hy _ rfl)
theorem ajr {op : Op} {id : Nat} {wb : Bool} (hx : ∀ x ∈ op.operands, e' x = e x) (ho : ∀ k ∈ cw e op.operands.toList, o' k = o k) : hap E o' e' id wb op = hap E o e id wb op := by
 cases op <;> try rfl
 case call c =>
  unfold hap
  dsimp only
  split
  · rename_i hc
    simp only [Op.operands, Call.operands, hc] at hx ho
    have h1 : ∀ x ∈ c.args.toList, e' x = e x := fun x hm => hx x (by simpa using hm)
    have h2 : ∀ k ∈ cw e c.args.toList, o' k = o k := fun k hk => ho k (by simpa using hk)
    generalize c.args.toList = l at h1 h2
    unfold a0e
    split
    · rename_i x y t t' _
      split
      · rw [h1 x (by simp), h1 y (by simp)]
        exact acj (fun r hr k hk => h2 k (dy hr (by simp) k hk)) (fun r hr k hk => h2 k (dy hr (by simp) k hk))
      · rfl
    · rfl
  · rename_i hc
    simp only [Op.operands, Call.operands, hc] at hx ho
    have h1 : ∀ x ∈ c.args.toList, e' x = e x := fun x hm => hx x (by simpa using hm)
    have h2 : ∀ k ∈ cw e c.args.toList, o' k = o k := fun k hk => ho k (by simpa using hk)
    generalize c.args.toList = l at h1 h2
    unfold sn
    split
    · rename_i x t _
      rw [h1 x (by simp)]
      cases E t with
      | none => rfl
      | some ti =>
       dsimp only
       cases ti.k <;> try rfl
       rename_i el
       dsimp only
       cases E el with
       | none => rfl
       | some ei =>
        dsimp only
        cases ei.zero with
        | none => rfl
        | some z =>
         dsimp only
         split
         · cases hex : e x with
           | none => rfl
           | some r =>
            cases r with
            | tup l => rfl
            | v cc =>
             cases cc with
             | agg l => rfl
             | one hv => exact afn fun k hk => h2 k (dy hex (by simp) k hk)
         · rfl
    · rfl
  · rfl
theorem a1q {h : HV} (ho : ∀ k ∈ h.ids, o' k = o k) : xi o' h = xi o h := by
 cases h with
 | ref id n => simp only [xi]; rw [ho id (by simp [HV.ids])]
 | _ => rfl
end
end Go.Hx
end
