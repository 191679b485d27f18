/- A part of the proof: Hx20 Cs20 Cs21 Cs22 Cs23 Hx21. -/
import Derived.ChangeArms
import Derived.OpenShut
import Derived.ProofKit
import Derived.WalkKit
import Derived.WideKeyArgs
import Derived.Test.YtidophngianjiaaGreatDoor5x14
import Derived.Test.YtidophngianjiaaGreatDoor5x19
set_option linter.all false
section
namespace Go.Hx
open Go.RowKit
def asc (P : Program) (g : FuncId) (caps : List PC) (n : Nat) (xs : Nat → List PC) : Prop :=
 ∀ (imm : Imm) (_ : l3 imm) (us : List Value) (W : World) (l : Nat) (J : Nat → World → Prop), bp imm caps us →
  (∀ i A, J i A → ∀ b ob, imm b = some ob → A.heap[b]? = some ob) →
  (∀ i A A', J i A → Below A.heap.size A A' → J i A') →
  (∀ i A vs, i < n → J i A → bp imm (xs i) vs → YieldAt (rf none) 0 P l vs.toArray A fun e A' => e = .returned (.bool true) ∧ J (i + 1) A') →
  J 0 W → CallsIn (rf none) 0 P g (#[.func (.yield l) #[] #[]] ++ us.toArray) W fun e W' => (∃ v, e = .returned v) ∧ J n W'
section
variable {P : Program} {nt : Nat} {c : Ctx} {s : S} {a : Act} {w w0 : World}
end
def an6 (r : Nat → Nat) : List (Nat × Option HR) → List (Nat × Option HR)
 | [] => []
 | (d, some x) :: l => (d, some (x.ren r)) :: an6 r l
 | (d, none) :: l => (d, none) :: an6 r l
def rgB (r : Nat → Nat) (T : List (Nat × Option HR)) (o1 o2 : List (Nat × ae)) (fx : List Nat) : Bool :=
 (fx.all fun id => Nat.ble 1000 (r id)) && ((bu o2).all fun id => (lg fx id && lg (bu o1) id) || (Nat.blt id 1000 && nmT id T)) && (a1a o2).all (lg (bu o2))
def atg (P : Program) (nt l : Nat) (body : Code) (Q : HSt → Prop) (e : Exit) (st : HSt) : Prop := e = .normal ∧ HW (ro := some l) P nt body st fun e st => e = .normal ∧ Q st
section
variable {P : Program} {E : Env} {nt : Nat} {ops : Array Oper} {i : Nat} {o : Oper} {Q : Exit → Act → World → Prop} {a : Act} {A : World} {imm : Imm}
def ami (d : Option Tmp) (x : HR) (t : List (Nat × Option HR)) : List (Nat × Option HR) := match d with | some d => (d, some x) :: t | none => t
class TabC (imm : Imm) : Prop where
 ok : l3 imm
def cI (imm : Imm) (A : World) [ht : TabC imm] : Ctx := { old := (imm, d7 A, (fun _ => undef), (fun _ => none), fun _ _ => undef), imm := imm, tab := ht.ok, own := fun _ => undef, blk := fun _ => noB, rows := fun _ _ => undef }
variable [TabC imm]
structure It (imm : Imm) [TabC imm] (nt : Nat) (t : List (Nat × Option HR)) (a : Act) (A : World) : Prop where
 defers : a.defers = []
 rel : ak A nt (cI imm A) ⟨b9 t, fun _ => none⟩ a A
theorem It.sub {t t' : List (Nat × Option HR)} (h : It imm nt t a A) (hs : tz t' t) : It imm nt t' a A :=
 ⟨h.defers, h.rel.relax ⟨b9 t', fun _ => none⟩ (fun d x hx => oh hs d x hx) (fun id ob ho => by cases ho)⟩
theorem It.move {t : List (Nat × Option HR)} {A' : World} (h : It imm nt t a A) (hi : ∀ b ob, imm b = some ob → A'.heap[b]? = some ob) : It imm nt t a A' := by
 refine ⟨h.defers, by rw [h.defers]; exact kw.nil _ _ _ _, h.rel.size, Below.refl _ _, fun d x hx => ?_, (fun id ob ho => by cases ho), (fun i i' ob ob' b ho => by cases ho), hi, (fun id ob b ho => by cases ho), fun b _ => rfl, fun b ob hb => hb, (fun id ob b ho => by cases ho), fun id _ => .inl rfl⟩
 exact am.evo (c := cI imm A) (o := fun _ => none) (Imm.le.refl imm) (fun _ _ => .inl rfl) (h.rel.tmps d x hx)
theorem It.put {t : List (Nat × Option HR)} (h : It imm nt t a A) {d : Option Tmp} (hd : cg nt d = true) (x : HR) (v : Value) (hx : am (cI imm A) (fun _ => none) x v) : It imm nt (ami d x t) (a.put d v) A := by
 cases d with
 | none => exact h
 | some d =>
  have := h.rel.put d (of_decide_eq_true hd) (some x) v (fun y hy => by cases hy; exact hx)
  refine ⟨h.defers, ?_⟩
  have e : (S.put ⟨b9 t, fun _ => none⟩ d (some x)) = ⟨b9 ((d, some x) :: t), fun _ => none⟩ := by
   unfold S.put
   simp [bd]
  rw [e] at this
  exact this
theorem akj {t : List (Nat × Option HR)} (h : It imm nt t a A) {x : Operand} {r : HR} (hx : ev ⟨b9 t, fun _ => none⟩ x = some r) : am (cI imm A) (fun _ => none) r (a.eval x) := af h.rel hx
theorem iy {t : List (Nat × Option HR)} {L : List Nat} {cl : Call} {f : Operand} {l : Nat} {R : World → Prop} (h : It imm nt t a A) (hi : ops[i]? = some o) (hw : au ops ⟨b9 t, fun _ => none⟩ o = some true) (hd : cg nt o.dst = true) (ho : o.op = .call cl) (hcl : cl.callee = .value f) (hf : ev ⟨b9 t, fun _ => none⟩ f = some (bf (.raw (.func (.yield l) #[] #[]))))
 (hy : YieldAt (rf none) 0 P l (cl.args.toList.map a.eval).toArray A fun e A' => e = .returned (.bool true) ∧ R A') (him : ∀ A', R A' → ∀ b ob, imm b = some ob → A'.heap[b]? = some ob)
 (hK : ∀ a' A', R A' → It imm nt (ami o.dst (bf (.raw (.bool true))) t) a' A' → wpOpsIn (rf none) 0 P ops Q L a' A') : wpOpsIn (rf none) 0 P ops Q (i :: L) a A := by
 rw [wpOpsIn_cons]
 unfold wpOpIn
 simp only [hi]
 rw [if_pos (d8 h.rel hw)]
 obtain ⟨fn, tmps, assign, body, hyr, hround⟩ := hy
 have hfe : a.eval f = .func (.yield l) #[] #[] := (akj h hf).1
 refine ⟨fun _ _ => trivial, ?_⟩
 have hsem : Oper.semAt (rf none).round a.eval o = execOp a.eval o := rfl
 rw [hsem]
 have hma : (cl.args.toList.map a.eval).toArray = cl.args.map a.eval := by apply Array.toList_inj.1; rw [Array.toList_map]
 rw [hma] at hyr
 have hrun : (execOp a.eval o).run P A = .ok (.round l fn tmps assign body) A := by
  simp only [execOp, ho, resolve, hcl, hfe, Sem.run_bind, Deferred.ofValue, Sem.run_pure, Result.andThen_ok, invoke]
  simpa using hyr
 rw [hrun, Oper.uponIn_round]
 refine ⟨fun hh => absurd hh (by simp [rf]), hround.mono ?_⟩
 rintro e A' ⟨rfl, hR⟩
 exact hK _ A' hR ((h.move (him A' hR)).put hd (bf (.raw (.bool true))) (.bool true) ⟨rfl, rfl⟩)
end
theorem CoP.vp {k k' : Nat} {f f' : Nat → PV} (hk : k' = k) (hf : ∀ j, j < k → CoP (f j) (f' j)) : CoP (.vp k f) (.vp k' f') := by
 subst hk
 rintro m u ⟨b, off, rfl, h⟩
 exact ⟨b, off, rfl, fun j hj => by
  obtain ⟨x, hx, hr⟩ := h j hj
  exact ⟨x, hx, hf j hj m x hr⟩⟩
theorem CoP.fn {g : FuncId} {k k' : Nat} {f f' : Nat → PV} (hk : k' = k) (hf : ∀ j, j < k → CoP (f j) (f' j)) : CoP (.fn g k f) (.fn g k' f') := by
 subst hk
 rintro m u ⟨cs, rfl, hl, h⟩
 exact ⟨cs, rfl, hl, fun j hj => by
  obtain ⟨x, hx, hr⟩ := h j hj
  exact ⟨x, hx, hf j hj m x hr⟩⟩
def RN (P : Program) (nt : Nat) (ops : Array Oper) (L : List Nat) (st : HSt) (Q : HSt → Prop) : Prop :=
 ∀ (ro : Option Nat) (n : Nat) w0 m0 a w (QQ : Exit → Act → World → Prop), Rel w0 m0 nt st.den a w → (∀ st' a' w', Q st' → Rel w0 m0 nt st'.den a' w' → QQ .normal a' w') → wpOpsIn (rf ro) n P ops QQ L a w
section
variable {P : Program} {E : Env} {nt : Nat} {ops : Array Oper} {st : HSt}
theorem xm (hE : bo P E) {ro : Option Nat} {n : Nat} {w0 : World} {m0 : Old} {sf : S} {L2 : List Nat} {QQ : Exit → Act → World → Prop} (hQ : ∀ a' w', Rel w0 m0 nt sf a' w' → wpOpsIn (rf ro) n P ops QQ L2 a' w') :
 ∀ (T : List Tr) (s : S) (a : Act) (w : World), gh P E nt ops T s sf → Rel w0 m0 nt s a w → wpOpsIn (rf ro) n P ops QQ (T.map (·.i) ++ L2) a w
 | [], s, a, w, hT, hr => by
  cases hT
  exact hQ _ _ hr
 | t :: T, s, a, w, hT, hr => by
  cases hT with
  | cons hi he hR hO hF hrest =>
  rw [List.map_cons, List.cons_append, wpOpsIn_cons]
  exact vc hE he hr hi fun a' w' hr' => xm hE hQ T _ a' w' hrest hr'
theorem a0l (hE : bo P E) {L1 L2 : List Nat} {Q : HSt → Prop} (h : Reg P E nt ops L1 st fun _ sf => RN P nt ops L2 sf Q) : RN P nt ops (L1 ++ L2) st Q := fun ro n w0 m0 a w QQ hr hQ => by
 obtain ⟨T, sf, hl, hT, h⟩ := h
 rw [← hl]
 exact xm hE (fun a' w' hr' => h ro n w0 m0 a' w' QQ hr' hQ) T _ a w hT hr
theorem adi {Q : HSt → Prop} (h : Q st) : RN P nt ops [] st Q := fun ro n w0 m0 a w QQ hr hQ => hQ st a w h hr
theorem ais {L : List Nat} {Q : HSt → Prop} (h : HE nt st fun st' => RN P nt ops L st' Q) : RN P nt ops L st Q := fun ro n w0 m0 a w QQ hr hQ => by
 obtain ⟨st', h1, h2⟩ := h w0 m0 a w hr
 exact h1 ro n w0 m0 a w QQ h2 hQ
theorem zu {ro : Option Nat} {Q : Exit → HSt → Prop} {id : Nat} (L1 L2 : List Nat) (hl : List.range ops.size = L1 ++ L2) (h : RN P nt ops (L1 ++ L2) st (Q .normal)) : HW (ro := ro) P nt (.region id ops false) st Q := fun w0 m0 a w hr => by
 refine wpIn_region ?_
 rw [hl]
 exact h ro 0 w0 m0 a w _ hr fun st' a' w' hq hr' => ⟨st', hq, hr'⟩
theorem aou {Q : HSt → Prop} (st1 : HSt) (d : Nat) (x : HR) (hs : ∀ w0 m0 a w, Rel w0 m0 nt st.den a w → ∃ cc, cc.old = m0 ∧ ak w0 nt cc st1.den a w ∧ am cc st1.den.o x (a.tmps.getD d undef))
 (h : HE nt ⟨(d, some x) :: st1.t, st1.o⟩ Q) : HE nt st Q := fun w0 m0 a w hr => by
 obtain ⟨cc, hold, hrr, hx⟩ := hs w0 m0 a w hr
 refine h w0 m0 a w ⟨cc, hold, hrr.defers, hrr.size, hrr.below, fun k y hy => ?_, hrr.objs, hrr.inj, hrr.imm, hrr.sep, hrr.was, hrr.frm, hrr.fsep, hrr.fixed⟩
 simp only [HSt.den] at hy
 rw [bd] at hy
 dsimp only at hy
 split at hy
 · rename_i hk
   subst hk
   simp only [Option.some.injEq] at hy
   subst hy
   exact hx
 · exact hrr.tmps k y hy
theorem a2s {Q : HSt → Prop} (d : Nat) {id n n' s : Nat} {wr : Bool} {e : TypeId} {f : Nat → Nat → PV} (hd : b9 st.t d = some (.v (.one (.ref id n)))) (ho : b9 st.o id = some (.arr wr s e n' f)) (hn : n' = n)
 (h : HE nt ⟨(d, some (bf (.sl n s false f))) :: st.t, (id, none) :: st.o⟩ Q) : HE nt st Q := by
 subst hn
 refine aou ⟨st.t, (id, none) :: st.o⟩ d (bf (.sl n' s false f)) (fun w0 m0 a w hr => ?_) h
 obtain ⟨cc, hold, hrr⟩ := hr
 refine ⟨_, ?_, by rw [nu]; exact hrr.freeze ho, ?_⟩
 · exact hold
 · obtain ⟨_, _, h3⟩ := hrr.tmps d _ hd
   have := (h3 _ _ _ _ ho rfl).2 rfl
   rw [this]
   exact kz hrr ho
end
end Go.Hx
end
section
namespace Go.Hx
def orL (ps : List AS) : AS := ps.foldl (· ||| ·) 0
theorem afl {ps : List AS} {i : Nat} (h : i < ps.length) : orL (ps.take (i + 1)) = orL (ps.take i) ||| ps.getD i default := by
 unfold orL
 rw [bg h, List.foldl_append]
 rfl
def apm (n : Int) (l : List Fd) (ps : List AS) : Bool := decide (orL ps = ay n) && ap5 l ps && ps.any (a1k n l)
def apn (n : Int) (l : List Fd) (ps : List AS) (s : AS) : List AS := if apm n l (ps.eraseIdx (idx (fun x => decide (x = s)) ps).toNat) = true then ps.eraseIdx (idx (fun x => decide (x = s)) ps).toNat else ps
def aak (n : Int) (l : List Fd) (p0 : List AS) : Nat → List AS
 | 0 => p0
 | i + 1 => apn n l (aak n l p0 i) (p0.getD (p0.length - 1 - i) default)
def a8q (n : Int) (l : List Fd) : Bool := ap5 l (ab1 n l)
def asd (n : Int) (l : List Fd) : List AS := if y7 n l 8 = 0 ∧ a8q n l = true then aak n l (z8 (ab1 n l)) (z8 (ab1 n l)).length else []
def asi (n : Int) (l : List Fd) : Bool := decide (y7 n l 8 = 0) && a8q n l
def ash (n : Int) (l : List Fd) (p0 : List AS) (i : Nat) (ps : List AS) : Prop := ps = aak n l p0 i ∧ ps.length ≤ p0.length ∧ ∀ j, j < p0.length - i → p0.getD j default ∈ ps
def aor (n : Int) (l : List Fd) : Option Fd := (aax n l).find? fun f => !a9g l (ab1 n l) f
def asz (n : Int) (l : List Fd) : Int := if y7 n l 8 = 0 then (match aor n l with | some _ => 0 | none => 4) else y7 n l 8
def at8 (n : Int) (l : List Fd) : Fd := if y7 n l 8 = 0 then (match aor n l with | some f => f | none => ⟨0, 0⟩) else ⟨0, 0⟩
end Go.Hx
end
section
namespace Go.Hx
theorem a0a {a s : AS} (h : sub a s) (hne : a ≠ s) : bsz a < bsz s := by
 rcases Nat.lt_or_eq_of_le (ak9 h) with h1 | h1
 · exact h1
 · exfalso
   apply hne
   have hs : (aw a).Sublist (aw s) := by
    have : aw a = (aw s).filter fun i => a.getLsbD i := by
     unfold aw
     rw [List.filter_filter]
     apply List.filter_congr
     intro i hi
     rw [List.mem_range] at hi
     cases ha : a.getLsbD i with
     | false => rfl
     | true => rw [c5.1 h i hi ha]; rfl
    rw [this]
    exact List.filter_sublist
   rw [ou, ou] at h1
   have he := hs.eq_of_length h1
   refine it h (c5.2 fun i hi hb => ?_)
   have : i ∈ aw s := md.2 ⟨hi, hb⟩
   rw [← he] at this
   exact (md.1 this).2
def spA (l : List Fd) (s : AS) : AS := (a3i l s).lhs ||| (a3i l s).rhs
def spB (l : List Fd) (s : AS) : AS := s &&& ~~~(a3i l s).rhs
theorem aer {a b : AS} : sub (a &&& b) b := c5.2 fun i hi h => by rw [BitVec.getLsbD_and, Bool.and_eq_true] at h; exact h.2
theorem a2i {a b : AS} : sub (a &&& b) a := c5.2 fun i hi h => by rw [BitVec.getLsbD_and, Bool.and_eq_true] at h; exact h.1
def aad (l : List Fd) : Nat → List AS → List AS → List AS
 | 0, _, out => out
 | n + 1, todo, out =>
  if todo.length = 0 then out
  else if mq l (todo.getD (todo.length - 1) default) = true then aad l n (todo.take (todo.length - 1) ++ [spA l (todo.getD (todo.length - 1) default), spB l (todo.getD (todo.length - 1) default)]) out
  else aad l n (todo.take (todo.length - 1)) (out ++ [todo.getD (todo.length - 1) default])
def amz (n : Int) (l : List Fd) : List AS := aad l 6562 [ay n] []
def ata (n : Int) (l : List Fd) : List AS := if y7 n l 8 = 0 then z8 (amz n l) else []
def jj (todo : List AS) : Nat := (todo.map fun s => 3 ^ bsz s).sum
theorem ya (a b : List AS) : jj (a ++ b) = jj a + jj b := by unfold jj; rw [List.map_append, List.sum_append]
theorem a5t : ∀ todo : List AS, todo.length ≤ jj todo
 | [] => Nat.zero_le _
 | s :: t => by
  have h1 := a5t t
  have h2 : 0 < 3 ^ bsz s := Nat.pow_pos (by omega)
  have e : jj (s :: t) = 3 ^ bsz s + jj t := by unfold jj; rw [List.map_cons, List.sum_cons]
  rw [List.length_cons, e]
  omega
theorem a2q {todo : List AS} (h : 0 < todo.length) : todo = todo.take (todo.length - 1) ++ [todo.getD (todo.length - 1) default] := by
 have := bg (l := todo) (q := todo.length - 1) (by omega)
 rw [show todo.length - 1 + 1 = todo.length by omega, List.take_length] at this
 exact this
def asy (n : Int) (l : List Fd) (x : Nat × List AS × List AS) : Prop := aad l x.1 x.2.1 x.2.2 = amz n l ∧ jj x.2.1 < x.1 ∧ x.2.2.length + x.1 ≤ 6562
theorem abf {k : Nat} (h : k ≤ 32) : bsz (er k) ≤ k := by
 unfold bsz
 have e : (List.range 32).countP (fun i => (er k).getLsbD i) = (List.range 32).countP fun i => decide (i < k) := by
  apply List.countP_congr
  intro i hi
  rw [List.mem_range] at hi
  rw [ke k i hi]
 have h2 : ∀ m, (List.range m).countP (fun i => decide (i < k)) ≤ k ∧ (List.range m).countP (fun i => decide (i < k)) ≤ m := by
  intro m
  induction m with
  | zero => simp
  | succ m ih =>
   rw [List.range_succ, List.countP_append]
   simp only [List.countP_cons, List.countP_nil]
   by_cases hm : m < k
   · rw [if_pos (decide_eq_true hm)]; omega
   · rw [if_neg (by simpa using hm)]; omega
 rw [e]
 exact (h2 32).1
theorem aht {n : Int} {m : Nat} (h : n ≤ m) (hm : m ≤ 32) : bsz (ay n) ≤ m := by
 unfold ay
 exact Nat.le_trans (abf (Nat.min_le_right _ _)) (by omega)
theorem a7t {α : Type} [Inhabited α] {wr wr' : Bool} {n m : Nat} {e : TypeId} {c : α → Nat → PV} {l : List α} {x y : α} {f g : Nat → Nat → PV} (hn : n = l.length) (hf : ∀ i, i < l.length → CoP (f i 0) (lf c l i 0)) (h0 : CoP (g 0 0) (c x 0)) (h1 : CoP (g 1 0) (c y 0)) (hm : m = n + 2) (hw : wr' = true → wr = true := by exact fun h => h) :
 CoO (.arr wr 1 e m (ej n f g)) (.arr wr' 1 e (l ++ [x, y]).length (lf c (l ++ [x, y]))) := by
 subst hn hm
 refine ⟨hw, rfl, rfl, by simp, fun i j hi hj => ?_⟩
 obtain rfl : j = 0 := by omega
 unfold ej
 by_cases h : i < l.length
 · rw [if_pos h]
   have := hf i h
   simp only [lf, List.getD, List.getElem?_append_left h] at this ⊢
   exact this
 · rw [if_neg h]
   rcases (by omega : i = l.length ∨ i = l.length + 1) with rfl | rfl
   · rw [Nat.sub_self]
     simp only [lf, List.getD]
     rw [List.getElem?_append_right (Nat.le_refl _), Nat.sub_self]
     exact h0
   · rw [show l.length + 1 - l.length = 1 by omega]
     simp only [lf, List.getD]
     rw [List.getElem?_append_right (by omega), show l.length + 1 - l.length = 1 by omega]
     exact h1
theorem a3v {α : Type} [Inhabited α] {wr wr' : Bool} {k m : Nat} {e : TypeId} {c : α → Nat → PV} {l : List α} (hk : k ≤ l.length) (hm : m = k) (hw : wr' = true → wr = true := by exact fun h => h) : CoO (.arr wr 1 e m (lf c l)) (.arr wr' 1 e (l.take k).length (lf c (l.take k))) := by
 subst hm
 refine ⟨hw, rfl, rfl, by rw [List.length_take, Nat.min_eq_left hk], fun i j hi hj => CoP.of_eq ?_⟩
 simp only [lf, List.getD, List.getElem?_take, if_pos hi]
theorem a4e {l : List AS} {k i : Nat} (hi : i < (l.take k).length) : lf sC l i 0 = lf sC (l.take k) i 0 := by
 rw [List.length_take] at hi
 simp only [lf, List.getD, List.getElem?_take, if_pos (show i < k by omega)]
end Go.Hx
end
section
namespace Go.Hx
open Go.Proofs
set_option maxRecDepth 100000
def arz : List Fd := [⟨1, 2⟩, ⟨2, 4⟩]
def asm : List Fd := [⟨3, 4⟩, ⟨4, 1⟩]
theorem a5j {α : Type} [Inhabited α] {wr wr' : Bool} {e : TypeId} {c : α → Nat → PV} {x y : α} {f : Nat → Nat → PV} (h0 : CoP (f 0 0) (c x 0)) (h1 : CoP (f 1 0) (c y 0)) (hw : wr' = true → wr = true := by exact fun h => h) : CoO (.arr wr 1 e 2 f) (.arr wr' 1 e 2 (lf c [x, y])) :=
 ⟨hw, rfl, rfl, rfl, fun i j hi hj => by
  have hi : i < 2 := hi
  have hj : j < 1 := hj
  obtain rfl : j = 0 := by omega
  rcases (by omega : i = 0 ∨ i = 1) with rfl | rfl
  · exact h0
  · exact h1⟩
end Go.Hx
end
section
namespace Go.Hx
open Go.Proofs
def w1 (l : List Fd) (p : AS) : Int := if cb 16 l = 0 ∧ (8 : Int) < bsz p then 3 else cb 16 l
section
variable {l : List Fd} {p : AS}
end
section
variable {n : Int} {l : List Fd}
end
end Go.Hx
end
section
namespace Go.Hx
open Go.RowKit Go.ChangeShapes Go.WideShapes Go.ChangeAt
def Rd (P : Program) (t : TypeId) (n : Nat) {α : Type} (c : α → Nat → PV) : Prop :=
 ∀ (H : Type) (enc : TypeId × Value → H) (w : World) (sp : Nat → Bool) (held : Bool) (fuel : Nat) (cs : List Value) (x : DataW H × List MemPlace), DataW.trod enc P w 0 sp held fuel t cs = some x →
  cs.length = n ∧ ∃ a : α, ∀ j, j < n → ∃ v, cs[j]? = some v ∧ ap (d7 w) (c a j) v
section
variable {P : Program} {t e : TypeId}
def ao9 (k : IntKind) (z : Int) : Nat → PV := fun _ => .raw (.int k z)
def as5 (b : Bool) : Nat → PV := fun _ => .raw (.bool b)
def as8 (s : ByteArray) : Nat → PV := fun _ => .raw (.string s)
theorem ame {k : IntKind} (ht : P.underlying t = some (.int k)) : Rd P t 1 (ao9 k) := by
 intro H enc w sp held fuel cs x h
 obtain ⟨n, rfl, _, _⟩ := DataW.trod_int ht h
 refine ⟨rfl, n, fun j hj => ?_⟩
 obtain rfl : j = 0 := by omega
 exact ⟨_, rfl, rfl, rfl⟩
def u8P (u : UInt8) : Nat → PV := fun _ => .raw (.int .u8 (u.toNat : Int))
theorem aqa (ht : P.underlying t = some (.int .u8)) : Rd P t 1 u8P := by
 intro H enc w sp held fuel cs x h
 obtain ⟨n, rfl, _, hw⟩ := DataW.trod_int ht h
 have hx : 0 ≤ n ∧ n ≤ 255 := by simpa [Lit.wf, IntKind.min, IntKind.max, IntKind.signed, IntKind.bits] using hw
 refine ⟨rfl, UInt8.ofNat n.toNat, fun j hj => ?_⟩
 obtain rfl : j = 0 := by omega
 refine ⟨_, rfl, ?_, rfl⟩
 have : (UInt8.ofNat n.toNat).toNat = n.toNat := by
  rw [UInt8.toNat_ofNat']
  omega
 rw [this]
 congr 1
 omega
theorem Rd.co {n : Nat} {α β : Type} {c : α → Nat → PV} {c' : β → Nat → PV} (h : Rd P t n c) (f : α → β) (hc : ∀ a j, j < n → CoP (c a j) (c' (f a) j)) : Rd P t n c' := by
 intro H enc w sp held fuel cs x hx
 obtain ⟨h1, a, h2⟩ := h _ enc w sp held fuel cs x hx
 refine ⟨h1, f a, fun j hj => ?_⟩
 obtain ⟨v, h3, h4⟩ := h2 j hj
 exact ⟨v, h3, hc a j hj _ _ h4⟩
def anw {α : Type} [Inhabited α] (s : Nat) (c : α → Nat → PV) (l : List α) : Nat → PV := fun _ => psl s c l
theorem ae2 {H : Type} {enc : TypeId × Value → H} {w : World} {sp : Nat → Bool} {held : Bool} {fuel : Nat} {cs : List Value} {x : DataW H × List MemPlace} {fs : Array Field} (ht : P.underlying t = some (.struct fs)) (h : DataW.trod enc P w 0 sp held fuel t cs = some x) :
 cs.length = P.cellsOf t ∧ ∃ n, ∀ (i : Nat) (f : Field), fs[i]? = some f → ∃ y, DataW.trod enc P w 0 sp held n f.type ((cs.drop f.offset).take (P.cellsOf f.type)) = some y := by
 obtain ⟨xs, n, _, _, h1, h2, h3⟩ := DataW.trod_struct ht h
 refine ⟨h1, n, fun i f hf => ?_⟩
 have := h3 i f hf
 rw [this]
 have hi : i < xs.length := by rw [h2]; exact (Array.getElem?_eq_some_iff.1 hf).1
 exact ⟨_, List.getElem?_eq_getElem hi⟩
theorem a4v {H : Type} {enc : TypeId × Value → H} {w : World} {sp : Nat → Bool} {held : Bool} {n off s : Nat} {ft : TypeId} {cs : List Value} {y : DataW H × List MemPlace} {α : Type} {c : α → Nat → PV} (h : Rd P ft s c) (hy : DataW.trod enc P w 0 sp held n ft ((cs.drop off).take (P.cellsOf ft)) = some y) :
 ∃ a : α, ∀ j, j < s → ∃ v, cs[off + j]? = some v ∧ ap (d7 w) (c a j) v := by
 obtain ⟨h1, a, h2⟩ := h _ enc w sp held n _ y hy
 refine ⟨a, fun j hj => ?_⟩
 obtain ⟨v, h3, h4⟩ := h2 j hj
 refine ⟨v, ?_, h4⟩
 rw [List.getElem?_take] at h3
 split at h3
 · rwa [List.getElem?_drop] at h3
 · cases h3
end
theorem a3d {W W' : World} (hb : Below W.heap.size W W') (may : MemPlace → Prop) : W.keptBut W' may := by
 refine ⟨hb.os, hb.output, fun i hi => ?_⟩
 rw [hb.block i hi]
 cases W.heap[i]? with
 | none => exact rfl
 | some o => cases o <;> first | exact ⟨rfl, rfl, rfl, fun _ _ => rfl⟩ | exact .inr ⟨rfl, rfl⟩ | exact rfl
theorem a38 {W W' : World} (hb : Below W.heap.size W W') (p : MemPlace) (hp : p.block < W.heap.size) : W.sameAt W' p := by
 cases p with
 | cell b off => show W'.cell? _ = W.cell? _; unfold World.cell?; rw [hb.block b hp]
 | map b => exact hb.block b hp
section
variable {H : Type} {enc : TypeId × Value → H} {P : Program}
theorem tq (hl : laidOutB P = true) {W W' : World} {sp' : Nat → Bool} : ∀ {ts : List TypeId} {vs : List Value} {ds : List (DataW H)} {ps : List MemPlace}, (∀ t ∈ ts, P.readableRec t = true ∧ t < P.types.size) → DataW.TrodAll enc P W 0 (fun _ => true) true ts vs ds ps →
 (∀ p ∈ ps, W.sameAt W' p) → (∀ p ∈ ps, sp' p.block = true) → DataW.TrodAll enc P W' 0 sp' true ts vs ds ps
 | [], [], [], ps, _, h, _, _ => h
 | t :: ts, v :: vs, d :: ds, ps, ht, ⟨p, q, h1, h2, e⟩, hs, hsp => by
  subst e
  refine ⟨p, q, WideElems.Trod_stays hl (ht t (by simp)).1 (ht t (by simp)).2 h1 (fun z hz => hs z (by simp [hz])) (fun z hz => hsp z (by simp [hz])), ?_, rfl⟩
  exact tq hl (fun t ht' => ht t (by simp [ht'])) h2 (fun z hz => hs z (by simp [hz])) (fun z hz => hsp z (by simp [hz]))
 | [], _ :: _, _, _, _, h, _, _ => h.elim
 | [], [], _ :: _, _, _, h, _, _ => h.elim
 | _ :: _, [], _, _, _, h, _, _ => h.elim
 | _ :: _, _ :: _, [], _, _, h, _, _ => h.elim
theorem ag1 {f : Func} {s : ChangeSpec} {W W' : World} {args : Array Value} {ds : List (DataW H)} {before : List MemPlace} {tb : TypeId} (hl : laidOutB P = true) (hpar : ∀ t ∈ f.params.toList, P.readableRec t = true ∧ t < P.types.size)
 (hres : f.resultTypes = #[tb]) (htb : P.underlying tb = some .bool) (hv : s.vars = []) (hfn : s.fn H ds = { results := [.lit (.bool true)], args := ds })
 (hW : DataW.Whole enc P f.params.toList s.vars false W args.toList ds [] before) (hb : Below W.heap.size W W') : s.post enc P f false true false false W args (.bool true) W' := by
 have hW' := hW
 have hlt : ∀ p ∈ before, p.block < W.heap.size := fun p hp => hW.lt p hp
 obtain ⟨p, q, hA, hV, rfl, hfz, hnd⟩ := hW
 rw [hv] at hV
 obtain ⟨_, rfl⟩ := trodVars_none hV
 have hfn' : s.fn H (ds ++ []) = { results := [.lit (.bool true)], args := ds } := by rw [List.append_nil]; exact hfn
 have hargs : ∀ sp : Nat → Bool, (∀ z ∈ p ++ [], sp z.block = true) → DataW.TrodAll enc P W' 0 sp true f.params.toList args.toList (s.fn H (ds ++ [])).args p := fun sp hsp => by
  rw [hfn']
  exact tq hl hpar hA (fun z hz => a38 hb z (hlt z (by simpa using hz))) (fun z hz => hsp z (by simpa using hz))
 have hrs : ∀ (b : Nat) (sp : Nat → Bool) (hd : Bool), DataW.TrodAll enc P W' b sp hd f.resultTypes.toList ((Value.bool true).resultList f.resultTypes.size) (s.fn H (ds ++ [])).results [] := fun b sp hd => by
  rw [hfn', hres]
  exact trodAll_cons_mk (shut_bool htb _) trodAll_mk0
 have hok : ∀ (j : Nat) (t : TypeId) (r : Value), f.resultTypes[j]? = some t → ((Value.bool true).resultList f.resultTypes.size)[j]? = some r → Value.okWide P W' .any 0 t r := ok_one hres rfl (okWide_bool_mk htb _)
 have hvars : ∀ sp : Nat → Bool, (∀ z ∈ p ++ [], sp z.block = true) → DataW.TrodVars enc P W' sp s.vars (s.fn H (ds ++ [])).vars [] := fun sp _ => by
  rw [hfn', hv]; exact rfl
 have hold : ∀ z ∈ p ++ [], (fun b => decide (b < W.heap.size)) z.block = true := fun z hz => by simpa using hlt z hz
 refine ⟨ds, [], p ++ [], [], p, [], hW', hrs _ _ _, hargs _ hold, hvars _ hold, World.keptBut_mono (fun z hz => ⟨hz, ?_⟩) (a3d hb (· ∈ p ++ [])), fun _ => ?_⟩
 · exact Or.inr (by simpa using hz)
 · refine ⟨hok, _, _, ([] ++ p) ++ [], ⟨[] ++ p, [], trodAll_append (hargs _ (fun _ _ => rfl)) (hrs _ _ _), hvars _ (fun _ _ => rfl), rfl, ?_, ?_⟩, ?_⟩
   · intro b off hp
     have hp' : MemPlace.cell b off ∈ p ++ [] := by simpa using hp
     have := hfz b off hp'
     unfold World.frozen? at this ⊢
     rw [hb.block b (hlt _ hp')]
     exact this
   · intro ha; cases ha
   · intro z hz _
     simpa using hz
end
theorem a9y {P : Program} {W : World} {r : Reach} {b : Nat} {t : TypeId} {k : IntKind} {v : Value} (ht : P.underlying t = some (.int k)) (h : Value.okWide P W r b t v) : v.cells.toList = [v] := by
 unfold Value.okWide at h
 rw [ht] at h
 unfold Cell.okWide at h
 rw [ht] at h
 cases v <;> first | rfl | (simp [Cell.ok, ht] at h)
theorem adf {P : Program} {f : FuncId} {args : List PC} {us : List Value} {W : World} {R : Ending → World → Prop} (ht : l3 (d7 W)) (h : ai P f args (al [.one (.raw (.bool true))])) (hr : bp (d7 W) args us) (hR : ∀ W', Below W.heap.size W W' → R (.returned (.bool true)) W') : Calls P f us.toArray W R := by
 refine (h W (d7 W) us ht (fun _ _ hh => hh) hr).mono ?_
 rintro e w' ⟨v, imm', rfl, hv, _, _, hb⟩
 obtain ⟨rfl, _⟩ := hv
 exact hR w' hb
end Go.Hx
end
