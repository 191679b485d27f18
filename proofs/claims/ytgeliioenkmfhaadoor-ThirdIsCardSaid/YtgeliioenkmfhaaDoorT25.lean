/- A part of the proof: lemmas for the theorem of this claim, merged by a program of ours out of Cs15, Cs16, Cs17, Cs18, Cs19, Hx20, Cs20, Cs21, Cs22, Cs23, Hx21. -/
import Derived.ChangeArms
import Derived.OpenShut
import Derived.ProofKit
import Derived.WalkKit
import Derived.WideKeyArgs
import Derived.Test.YtgeliioenkmfhaaDoorT14
import Derived.Test.YtgeliioenkmfhaaDoorT15
import Derived.Test.YtgeliioenkmfhaaDoorT24
set_option linter.all false
section
namespace Go.Hx
theorem and_halves (a b : Nat) : a &&& b = 2 * (a / 2 &&& b / 2) + (a % 2 &&& b % 2) := by
  have h1 := Nat.div_add_mod (a &&& b) 2
  have h2 : (a &&& b) % 2 = a % 2 &&& b % 2 := by
    have := Nat.and_mod_two_pow (a := a) (b := b) (n := 1)
    simpa using this
  rw [Nat.and_div_two, h2] at h1
  exact h1.symm
theorem bit_and (a b : Nat) : (a % 2 &&& b % 2) = if a % 2 = 1 ∧ b % 2 = 1 then 1 else 0 := by
  rcases Nat.mod_two_eq_zero_or_one a with h | h <;> rcases Nat.mod_two_eq_zero_or_one b with k | k <;> rw [h, k] <;> rfl
theorem in_halves {x s : Nat} (h : x &&& s = x) : (x / 2 &&& s / 2 = x / 2) ∧ (x % 2 = 1 → s % 2 = 1) := by
  have h1 := and_halves x s
  rw [h, bit_and] at h1
  split at h1 <;> rename_i hc
  · exact ⟨by omega, fun _ => hc.2⟩
  · exact ⟨by omega, fun hx => by omega⟩
theorem pred_top : ∀ (x s z : Nat), x &&& s = x → z &&& s = z → z < x → z ≤ ((x - 1) &&& s) := by
  intro x
  induction x using Nat.strongRecOn with
  | _ x ih =>
    intro s z hx hz hlt
    obtain ⟨x1, x2⟩ := in_halves hx
    obtain ⟨z1, z2⟩ := in_halves hz
    rw [and_halves (x - 1) s, bit_and]
    rcases Nat.mod_two_eq_zero_or_one x with hb | hb
    · have e1 : (x - 1) / 2 = x / 2 - 1 := by omega
      have e2 : (x - 1) % 2 = 1 := by omega
      have := ih (x / 2) (by omega) (s / 2) (z / 2) x1 z1 (by omega)
      rw [e1, e2]
      by_cases hs : s % 2 = 1
      · rw [if_pos ⟨rfl, hs⟩]; omega
      · rw [if_neg (fun h => hs h.2)]
        have : z % 2 = 0 := by omega
        omega
    · have e1 : (x - 1) / 2 = x / 2 := by omega
      have e2 : (x - 1) % 2 = 0 := by omega
      rw [e1, e2, x1, if_neg (by omega)]
      omega
theorem subN {z s : AS} : sub z s ↔ z.toNat &&& s.toNat = z.toNat := by
  rw [← BitVec.toNat_and, BitVec.toNat_inj, sub_bit]
  constructor
  · intro h
    apply BitVec.eq_of_getLsbD_eq
    intro k hk
    rw [BitVec.getLsbD_and]
    cases hz : z.getLsbD k with
    | false => rfl
    | true => rw [h k hk hz]; rfl
  · intro h i _ hi
    rw [← h, BitVec.getLsbD_and] at hi
    simp at hi
    exact hi.2
def downS (s : AS) : Nat → AS → List AS
  | 0, _ => []
  | n + 1, x => x :: if x = 0 then [] else downS s n ((x - 1) &&& s)
theorem pred_nat {x : AS} (h : x ≠ 0) : (x - 1).toNat = x.toNat - 1 := by
  have h0 : x.toNat ≠ 0 := fun e => h (BitVec.eq_of_toNat_eq e)
  have := x.isLt
  rw [BitVec.toNat_sub]
  show (2 ^ 32 - 1 + x.toNat) % 2 ^ 32 = _
  omega
theorem pred_sub {x s : AS} : sub ((x - 1) &&& s) s := by
  rw [subN, BitVec.toNat_and, Nat.and_assoc, Nat.and_self]
theorem pred_lt {x s : AS} (h : x ≠ 0) : ((x - 1) &&& s).toNat < x.toNat := by
  have h0 : x.toNat ≠ 0 := fun e => h (BitVec.eq_of_toNat_eq e)
  rw [BitVec.toNat_and, pred_nat h]
  have : ((x.toNat - 1) &&& s.toNat) ≤ x.toNat - 1 := Nat.and_le_left
  omega
theorem pred_max {x s z : AS} (hx : sub x s) (hz : sub z s) (h : z.toNat < x.toNat) : z.toNat ≤ ((x - 1) &&& s).toNat := by
  have h0 : x ≠ 0 := fun e => by subst e; exact absurd h (Nat.not_lt_zero _)
  rw [BitVec.toNat_and, pred_nat h0]
  exact pred_top _ _ _ (subN.1 hx) (subN.1 hz) h
def subsL (s : AS) : List AS := ord (downS s (s.toNat + 1) s)
theorem sub_self (s : AS) : sub s s := by rw [subN, Nat.and_self]
theorem subLe {z s : AS} (h : sub z s) : z.toNat ≤ s.toNat := by rw [← subN.1 h]; exact Nat.and_le_right
def subsC (s : AS) : List AS := if 12 < bsz s then [] else subsL s
def DownI (s : AS) (y : List AS × AS) : Prop := sub y.2 s ∧ y.1.length + y.2.toNat ≤ s.toNat + 1 ∧ ∀ z, z ∈ y.1 ↔ sub z s ∧ y.2.toNat ≤ z.toNat
def nxt (x s : Nat) : Nat := if x = s then s + 1 else ((2 ^ 64 + x - s) &&& s)
def UpI (s : AS) (k : Nat) (y : List AS × Nat) : Prop :=
  (y.2 = s.toNat + 1 ∨ y.2 &&& s.toNat = y.2) ∧ y.1.length ≤ k * 4294967296 + y.2 ∧ Ordd y.1 ∧ ∀ z, z ∈ y.1 ↔ sub z s ∧ (bsz z < k ∨ bsz z = k ∧ z.toNat < y.2)
def UpK (s : AS) (k : Nat) (l : List AS) : Prop := l.length ≤ k * 4294967296 ∧ Ordd l ∧ ∀ z, z ∈ l ↔ sub z s ∧ bsz z < k
abbrev pU (n : Nat) : PC := .one (.raw (.int .u64 (n : Int)))
abbrev vU (n : Nat) : HR := oneP (.raw (.int .u64 (n : Int)))
theorem pred_and {x s : AS} (h : x ≠ 0) : bitV .and .u32 (asI x - 1) (asI s) = asI ((x - 1) &&& s) := by rw [pred_v h, bAnd]
theorem arr_lit1 {α : Type} [Inhabited α] {wr wr' : Bool} {e : TypeId} {c : α → Nat → PV} {x : α} {f : Nat → Nat → PV} (h : CoP (f 0 0) (c x 0)) (hw : wr' = true → wr = true := by exact fun h => h) : CoO (.arr wr 1 e 1 f) (.arr wr' 1 e [x].length (lf c [x])) :=
  ⟨hw, rfl, rfl, rfl, fun i j hi hj => by
    have hi : i < 1 := hi
    have hj : j < 1 := hj
    obtain rfl : j = 0 := by omega
    obtain rfl : i = 0 := by omega
    exact h⟩
theorem set_u64 {n : Nat} (h : n < 4294967296) : (n : Int) = asI (BitVec.ofNat 32 n) := by
  unfold asI
  rw [BitVec.toNat_ofNat]
  omega
end Go.Hx
end
section
namespace Go.Hx
def vioP (l : List Fd) (p x : AS) : Bool := decide (clo l x &&& p ≠ x) && decide (clo l x &&& p ≠ p)
def violX (l : List Fd) (p : AS) : Option AS := (subsC p).find? (vioP l p)
def vioF (l : List Fd) (p x : AS) : Fd := ⟨x, (clo l x &&& p) &&& ~~~x⟩
def violF (l : List Fd) (p : AS) : Fd := match violX l p with
  | some x => vioF l p x
  | none => ⟨0, 0⟩
def violB (l : List Fd) (p : AS) : Bool := (violX l p).isSome
end Go.Hx
end
section
namespace Go.Hx
theorem ref_to {id n m : Nat} (h : n = m) : CoR (.v (.one (.ref id n))) (.v (.one (.ref id m))) := by rw [h]; exact CoR.refl _
end Go.Hx
end
section
namespace Go.Hx
def vioE (l : List Fd) (p : AS) : Int := if vErr 16 l = 0 then (if 8 < bsz p then 3 else if p >>> 16 = 0 then 0 else 1) else vErr 16 l
def vioR (l : List Fd) (p : AS) : Fd := if vioE l p = 0 then violF l p else ⟨0, 0⟩
def vioRB (l : List Fd) (p : AS) : Bool := decide (vioE l p = 0) && violB l p
def bcP (n : Int) (l : List Fd) (f : Fd) : Bool := decide (f.rhs &&& ~~~f.lhs ≠ 0) && decide (clo l f.lhs ≠ fullI n)
def bcS (n : Int) (l : List Fd) : Bool := decide (vErr n l = 0) && !l.any (bcP n l)
def subF (n : Int) (l : List Fd) : List AS := if errS n l 8 = 0 then (subsC (fullI n)).filter fun s => !violB l s else []
end Go.Hx
end
section
namespace Go.Hx
def moreS (l : List Fd) (p z : AS) : AS := (p &&& clo l (z &&& p)) &&& ~~~z
def moreB (l : List Fd) (z p : AS) : Bool := decide (moreS l p z ≠ 0)
def folF (l : List Fd) (ps : List AS) : Nat → AS → AS
  | 0, z => z
  | n + 1, z => match ps.find? (moreB l z) with
    | none => z
    | some p => folF l ps n (z ||| moreS l p z)
def kept (l : List Fd) (ps : List AS) (z : AS) : AS := folF l ps 4294967297 z
def presB (l : List Fd) (ps : List AS) (f : Fd) : Bool := decide (sub f.rhs (kept l ps f.lhs))
def FolI (l : List Fd) (ps : List AS) (z0 : AS) (x : Nat × List Nat × AS) : Prop := folF l ps x.1 x.2.2 = kept l ps z0 ∧ 4294967296 < x.1 + x.2.2.toNat ∧ x.2.1.length + x.1 = 4294967297
def lostT (l : List Fd) (ps : List AS) (i : Nat) : List Nat := (List.range i).filter fun j => !presB l ps (l.getD j default)
def allP (l : List Fd) (ps : List AS) : Bool := (List.range l.length).all fun j => presB l ps (l.getD j default)
end Go.Hx
end
section
namespace Go.Hx
open Go.RowKit
def HIter (P : Program) (g : FuncId) (caps : List PC) (n : Nat) (xs : Nat → List PC) : Prop :=
  ∀ (imm : Imm) (_ : TabOk imm) (us : List Value) (W : World) (l : Nat) (J : Nat → World → Prop), RepPCL imm caps us →
    (∀ i A, J i A → ∀ b ob, imm b = some ob → A.heap[b]? = some ob) →
    (∀ i A A', J i A → Below A.heap.size A A' → J i A') →
    (∀ i A vs, i < n → J i A → RepPCL imm (xs i) vs → YieldAt (rf none) 0 P l vs.toArray A fun e A' => e = .returned (.bool true) ∧ J (i + 1) A') →
    J 0 W → CallsIn (rf none) 0 P g (#[.func (.yield l) #[] #[]] ++ us.toArray) W fun e W' => (∃ v, e = .returned v) ∧ J n W'
section
variable {P : Program} {nt : Nat} {c : Ctx} {s : S} {a : Act} {w w0 : World}
end
def renT (r : Nat → Nat) : List (Nat × Option HR) → List (Nat × Option HR)
  | [] => []
  | (d, some x) :: l => (d, some (x.ren r)) :: renT r l
  | (d, none) :: l => (d, none) :: renT r l
def rgB (r : Nat → Nat) (T : List (Nat × Option HR)) (o1 o2 : List (Nat × HObj)) (fx : List Nat) : Bool :=
  (fx.all fun id => Nat.ble 1000 (r id)) && ((keys o2).all fun id => (hasK fx id && hasK (keys o1) id) || (Nat.blt id 1000 && nmT id T)) && (idsO o2).all (hasK (keys o2))
def asgQ (P : Program) (nt l : Nat) (body : Code) (Q : HSt → Prop) (e : Exit) (st : HSt) : Prop := e = .normal ∧ HW (ro := some l) P nt body st fun e st => e = .normal ∧ Q st
section
variable {P : Program} {E : Env} {nt : Nat} {ops : Array Oper} {i : Nat} {o : Oper} {Q : Exit → Act → World → Prop} {a : Act} {A : World} {imm : Imm}
def putT (d : Option Tmp) (x : HR) (t : List (Nat × Option HR)) : List (Nat × Option HR) := match d with | some d => (d, some x) :: t | none => t
class TabC (imm : Imm) : Prop where
  ok : TabOk imm
def cI (imm : Imm) (A : World) [ht : TabC imm] : Ctx := { old := (imm, nowImm A, (fun _ => undef), fun _ => none), imm := imm, tab := ht.ok, own := fun _ => undef, blk := fun _ => none }
variable [TabC imm]
structure It (imm : Imm) [TabC imm] (nt : Nat) (t : List (Nat × Option HR)) (a : Act) (A : World) : Prop where
  defers : a.defers = []
  rel : RelC A nt (cI imm A) ⟨look t, fun _ => none⟩ a A
theorem It.sub {t t' : List (Nat × Option HR)} (h : It imm nt t a A) (hs : subT t' t) : It imm nt t' a A :=
  ⟨h.defers, h.rel.relax ⟨look t', fun _ => none⟩ (fun d x hx => subT_spec hs d x hx) (fun id ob ho => by cases ho)⟩
theorem It.move {t : List (Nat × Option HR)} {A' : World} (h : It imm nt t a A) (hi : ∀ b ob, imm b = some ob → A'.heap[b]? = some ob) : It imm nt t a A' := by
  refine ⟨h.defers, by rw [h.defers]; exact Marks.nil _ _ _ _, h.rel.size, Below.refl _ _, fun d x hx => ?_, (fun id ob ho => by cases ho), (fun i i' ob ob' b ho => by cases ho), hi, (fun id ob b ho => by cases ho), fun b _ => rfl, fun b ob hb => hb, (fun id ob b ho => by cases ho), fun id _ => .inl rfl⟩
  exact RepHR.evo (c := cI imm A) (o := fun _ => none) (Imm.le.refl imm) (fun _ _ => .inl rfl) (h.rel.tmps d x hx)
theorem It.put {t : List (Nat × Option HR)} (h : It imm nt t a A) {d : Option Tmp} (hd : dstOk nt d = true) (x : HR) (v : Value) (hx : RepHR (cI imm A) (fun _ => none) x v) : It imm nt (putT d x t) (a.put d v) A := by
  cases d with
  | none => exact h
  | some d =>
    have := h.rel.put d (of_decide_eq_true hd) (some x) v (fun y hy => by cases hy; exact hx)
    refine ⟨h.defers, ?_⟩
    have e : (S.put ⟨look t, fun _ => none⟩ d (some x)) = ⟨look ((d, some x) :: t), fun _ => none⟩ := by
      unfold S.put
      simp [look_cons]
    rw [e] at this
    exact this
theorem it_eval {t : List (Nat × Option HR)} (h : It imm nt t a A) {x : Operand} {r : HR} (hx : ev ⟨look t, fun _ => none⟩ x = some r) : RepHR (cI imm A) (fun _ => none) r (a.eval x) := ev_sound h.rel hx
theorem iy {t : List (Nat × Option HR)} {L : List Nat} {cl : Call} {f : Operand} {l : Nat} {R : World → Prop} (h : It imm nt t a A) (hi : ops[i]? = some o) (hw : wantedH ops ⟨look t, fun _ => none⟩ o = some true) (hd : dstOk nt o.dst = true) (ho : o.op = .call cl) (hcl : cl.callee = .value f) (hf : ev ⟨look t, fun _ => none⟩ f = some (oneP (.raw (.func (.yield l) #[] #[]))))
    (hy : YieldAt (rf none) 0 P l (cl.args.toList.map a.eval).toArray A fun e A' => e = .returned (.bool true) ∧ R A') (him : ∀ A', R A' → ∀ b ob, imm b = some ob → A'.heap[b]? = some ob)
    (hK : ∀ a' A', R A' → It imm nt (putT o.dst (oneP (.raw (.bool true))) t) a' A' → wpOpsIn (rf none) 0 P ops Q L a' A') : wpOpsIn (rf none) 0 P ops Q (i :: L) a A := by
  rw [wpOpsIn_cons]
  unfold wpOpIn
  simp only [hi]
  rw [if_pos (wantedH_sound h.rel hw)]
  obtain ⟨fn, tmps, assign, body, hyr, hround⟩ := hy
  have hfe : a.eval f = .func (.yield l) #[] #[] := (it_eval h hf).1
  refine ⟨fun _ _ => trivial, ?_⟩
  have hsem : Oper.semAt (rf none).round a.eval o = execOp a.eval o := rfl
  rw [hsem]
  have hma : (cl.args.toList.map a.eval).toArray = cl.args.map a.eval := by apply Array.toList_inj.1; rw [Array.toList_map]
  rw [hma] at hyr
  have hrun : (execOp a.eval o).run P A = .ok (.round l fn tmps assign body) A := by
    simp only [execOp, ho, resolve, hcl, hfe, Sem.run_bind, Deferred.ofValue, Sem.run_pure, Result.andThen_ok, invoke]
    simpa using hyr
  rw [hrun, Oper.uponIn_round]
  refine ⟨fun hh => absurd hh (by simp [rf]), hround.mono ?_⟩
  rintro e A' ⟨rfl, hR⟩
  exact hK _ A' hR ((h.move (him A' hR)).put hd (oneP (.raw (.bool true))) (.bool true) ⟨rfl, rfl⟩)
end
theorem CoP.vp {k k' : Nat} {f f' : Nat → PV} (hk : k' = k) (hf : ∀ j, j < k → CoP (f j) (f' j)) : CoP (.vp k f) (.vp k' f') := by
  subst hk
  rintro m u ⟨b, off, rfl, h⟩
  exact ⟨b, off, rfl, fun j hj => by
    obtain ⟨x, hx, hr⟩ := h j hj
    exact ⟨x, hx, hf j hj m x hr⟩⟩
theorem CoP.fn {g : FuncId} {k k' : Nat} {f f' : Nat → PV} (hk : k' = k) (hf : ∀ j, j < k → CoP (f j) (f' j)) : CoP (.fn g k f) (.fn g k' f') := by
  subst hk
  rintro m u ⟨cs, rfl, hl, h⟩
  exact ⟨cs, rfl, hl, fun j hj => by
    obtain ⟨x, hx, hr⟩ := h j hj
    exact ⟨x, hx, hf j hj m x hr⟩⟩
def RN (P : Program) (nt : Nat) (ops : Array Oper) (L : List Nat) (st : HSt) (Q : HSt → Prop) : Prop :=
  ∀ (ro : Option Nat) (n : Nat) w0 m0 a w (QQ : Exit → Act → World → Prop), Rel w0 m0 nt st.den a w → (∀ st' a' w', Q st' → Rel w0 m0 nt st'.den a' w' → QQ .normal a' w') → wpOpsIn (rf ro) n P ops QQ L a w
section
variable {P : Program} {E : Env} {nt : Nat} {ops : Array Oper} {st : HSt}
end
end Go.Hx
end
section
namespace Go.Hx
def orL (ps : List AS) : AS := ps.foldl (· ||| ·) 0
theorem orL_take {ps : List AS} {i : Nat} (h : i < ps.length) : orL (ps.take (i + 1)) = orL (ps.take i) ||| ps.getD i default := by
  unfold orL
  rw [take_snoc h, List.foldl_append]
  rfl
def goodB (n : Int) (l : List Fd) (ps : List AS) : Bool := decide (orL ps = fullI n) && allP l ps && ps.any (skey n l)
def possF (n : Int) (l : List Fd) (ps : List AS) (s : AS) : List AS := if goodB n l (ps.eraseIdx (idx (fun x => decide (x = s)) ps).toNat) = true then ps.eraseIdx (idx (fun x => decide (x = s)) ps).toNat else ps
def possN (n : Int) (l : List Fd) (p0 : List AS) : Nat → List AS
  | 0 => p0
  | i + 1 => possF n l (possN n l p0 i) (p0.getD (p0.length - 1 - i) default)
def possAll (n : Int) (l : List Fd) : Bool := allP l (subF n l)
def possL (n : Int) (l : List Fd) : List AS := if errS n l 8 = 0 ∧ possAll n l = true then possN n l (maxl (subF n l)) (maxl (subF n l)).length else []
def possB (n : Int) (l : List Fd) : Bool := decide (errS n l 8 = 0) && possAll n l
theorem maxl_len (l : List AS) : (maxl l).length ≤ l.length := by
  unfold maxl keepS
  exact Nat.le_trans (List.length_filter_le _ _) (ord_len l)
def PossI (n : Int) (l : List Fd) (p0 : List AS) (i : Nat) (ps : List AS) : Prop := ps = possN n l p0 i ∧ ps.length ≤ p0.length ∧ ∀ j, j < p0.length - i → p0.getD j default ∈ ps
def obsX (n : Int) (l : List Fd) : Option Fd := (minE n l).find? fun f => !presB l (subF n l) f
def obsE (n : Int) (l : List Fd) : Int := if errS n l 8 = 0 then (match obsX n l with | some _ => 0 | none => 4) else errS n l 8
def obsF (n : Int) (l : List Fd) : Fd := if errS n l 8 = 0 then (match obsX n l with | some f => f | none => ⟨0, 0⟩) else ⟨0, 0⟩
end Go.Hx
end
section
namespace Go.Hx
def spA (l : List Fd) (s : AS) : AS := (violF l s).lhs ||| (violF l s).rhs
def spB (l : List Fd) (s : AS) : AS := s &&& ~~~(violF l s).rhs
theorem sub_and_l {a b : AS} : sub (a &&& b) b := sub_bit.2 fun i hi h => by rw [BitVec.getLsbD_and, Bool.and_eq_true] at h; exact h.2
theorem sub_and_r {a b : AS} : sub (a &&& b) a := sub_bit.2 fun i hi h => by rw [BitVec.getLsbD_and, Bool.and_eq_true] at h; exact h.1
theorem sub_and_both {a b c : AS} (h : sub a b) (k : sub a c) : sub a (b &&& c) := sub_bit.2 fun i hi ha => by rw [BitVec.getLsbD_and, sub_bit.1 h i hi ha, sub_bit.1 k i hi ha]; rfl
def decF (l : List Fd) : Nat → List AS → List AS → List AS
  | 0, _, out => out
  | n + 1, todo, out =>
    if todo.length = 0 then out
    else if violB l (todo.getD (todo.length - 1) default) = true then decF l n (todo.take (todo.length - 1) ++ [spA l (todo.getD (todo.length - 1) default), spB l (todo.getD (todo.length - 1) default)]) out
    else decF l n (todo.take (todo.length - 1)) (out ++ [todo.getD (todo.length - 1) default])
def decO (n : Int) (l : List Fd) : List AS := decF l 6562 [fullI n] []
def decE (n : Int) (l : List Fd) : List AS := if errS n l 8 = 0 then maxl (decO n l) else []
def meas (todo : List AS) : Nat := (todo.map fun s => 3 ^ bsz s).sum
def DecI (n : Int) (l : List Fd) (x : Nat × List AS × List AS) : Prop := decF l x.1 x.2.1 x.2.2 = decO n l ∧ meas x.2.1 < x.1 ∧ x.2.2.length + x.1 ≤ 6562
end Go.Hx
end
section
namespace Go.Hx
open Go.Proofs
set_option maxRecDepth 100000
def chainL : List Fd := [⟨1, 2⟩, ⟨2, 4⟩]
def postL : List Fd := [⟨3, 4⟩, ⟨4, 1⟩]
theorem co_fd2 {x y : Fd} {cl : Bool} {f : Nat → Nat → PV} (h0 : CoP (f 0 0) (x.c 0)) (h1 : CoP (f 0 1) (x.c 1)) (h2 : CoP (f 1 0) (y.c 0)) (h3 : CoP (f 1 1) (y.c 1)) : CoP (.sl 2 2 cl f) (fdl [x, y]) :=
  CoP.sl rfl (.inl rfl) (fun h => by cases h) fun i j hi hj => by
    rcases (by omega : i = 0 ∨ i = 1) with rfl | rfl <;> rcases (by omega : j = 0 ∨ j = 1) with rfl | rfl
    · exact h0
    · exact h1
    · exact h2
    · exact h3
end Go.Hx
end
section
namespace Go.Hx
open Go.Proofs
def w1 (l : List Fd) (p : AS) : Int := if vErr 16 l = 0 ∧ (8 : Int) < bsz p then 3 else vErr 16 l
section
variable {l : List Fd} {p : AS}
end
section
variable {n : Int} {l : List Fd}
end
end Go.Hx
end
section
namespace Go.Hx
open Go.RowKit Go.ChangeShapes Go.WideShapes Go.ChangeAt
def Rd (P : Program) (t : TypeId) (n : Nat) {α : Type} (c : α → Nat → PV) : Prop :=
  ∀ (H : Type) (enc : TypeId × Value → H) (w : World) (sp : Nat → Bool) (held : Bool) (fuel : Nat) (cs : List Value) (x : DataW H × List MemPlace), DataW.trod enc P w 0 sp held fuel t cs = some x →
    cs.length = n ∧ ∃ a : α, ∀ j, j < n → ∃ v, cs[j]? = some v ∧ RepP (nowImm w) (c a j) v
section
variable {P : Program} {t e : TypeId}
def intC (k : IntKind) (z : Int) : Nat → PV := fun _ => .raw (.int k z)
def boolC (b : Bool) : Nat → PV := fun _ => .raw (.bool b)
def byteC (s : ByteArray) : Nat → PV := fun _ => .raw (.string s)
theorem rd_int {k : IntKind} (ht : P.underlying t = some (.int k)) : Rd P t 1 (intC k) := by
  intro H enc w sp held fuel cs x h
  obtain ⟨n, rfl, _, _⟩ := DataW.trod_int ht h
  refine ⟨rfl, n, fun j hj => ?_⟩
  obtain rfl : j = 0 := by omega
  exact ⟨_, rfl, rfl, rfl⟩
def u8P (u : UInt8) : Nat → PV := fun _ => .raw (.int .u8 (u.toNat : Int))
theorem rd_u8 (ht : P.underlying t = some (.int .u8)) : Rd P t 1 u8P := by
  intro H enc w sp held fuel cs x h
  obtain ⟨n, rfl, _, hw⟩ := DataW.trod_int ht h
  have hx : 0 ≤ n ∧ n ≤ 255 := by simpa [Lit.wf, IntKind.min, IntKind.max, IntKind.signed, IntKind.bits] using hw
  refine ⟨rfl, UInt8.ofNat n.toNat, fun j hj => ?_⟩
  obtain rfl : j = 0 := by omega
  refine ⟨_, rfl, ?_, rfl⟩
  have : (UInt8.ofNat n.toNat).toNat = n.toNat := by
    rw [UInt8.toNat_ofNat']
    omega
  rw [this]
  congr 1
  omega
theorem Rd.co {n : Nat} {α β : Type} {c : α → Nat → PV} {c' : β → Nat → PV} (h : Rd P t n c) (f : α → β) (hc : ∀ a j, j < n → CoP (c a j) (c' (f a) j)) : Rd P t n c' := by
  intro H enc w sp held fuel cs x hx
  obtain ⟨h1, a, h2⟩ := h _ enc w sp held fuel cs x hx
  refine ⟨h1, f a, fun j hj => ?_⟩
  obtain ⟨v, h3, h4⟩ := h2 j hj
  exact ⟨v, h3, hc a j hj _ _ h4⟩
def pslC {α : Type} [Inhabited α] (s : Nat) (c : α → Nat → PV) (l : List α) : Nat → PV := fun _ => psl s c l
theorem rd_slice {s : Nat} {α : Type} [Inhabited α] {c : α → Nat → PV} (ht : P.underlying t = some (.slice e)) (hc : P.cellsOf e = s) (hs : 0 < s) (h : Rd P e s c) : Rd P t 1 (pslC s c) := by
  classical
  intro H enc w sp held fuel cs x hx
  rcases DataW.trod_slice ht hx with ⟨rfl, _⟩ | ⟨a, len, cap, elems, rest, n, rfl, rfl, _, hb, hl, hm, hlen, hel, _, _⟩
  · refine ⟨rfl, [], fun j hj => ?_⟩
    obtain rfl : j = 0 := by omega
    exact ⟨_, rfl, none, 0, rfl, Nat.le_refl _, Nat.zero_le _, (fun hh => by cases hh), fun hh => absurd hh (Nat.lt_irrefl 0)⟩
  · have each : ∀ i, i < len → ∃ q : α, ∀ j, j < s → ∃ v, w.cell? (a.add (i * s + j)) = some v ∧ RepP (nowImm w) (c q j) v := by
      intro i hi
      have h1 := hel i hi
      rw [hc] at h1
      rw [List.getElem?_eq_getElem (by omega)] at h1
      obtain ⟨cs', h2, h3⟩ := Option.bind_eq_some_iff.1 h1
      obtain ⟨_, h4, h5⟩ := World.cells?_some h2
      obtain ⟨_, q, h6⟩ := h _ enc w sp held n cs' _ h3
      refine ⟨q, fun j hj => ?_⟩
      obtain ⟨v, h7, h8⟩ := h6 j hj
      refine ⟨v, ?_, h8⟩
      have := h5 j hj
      rw [h7] at this
      rw [← this]
      congr 1
      unfold Addr.add
      by_cases hj0 : j = 0
      · subst hj0
        simp
      · by_cases hi0 : i * s = 0
        · simp [hi0, hj0]
        · have : ¬ (i * s + j = 0) := by omega
          simp only [hj0, hi0, this, if_false]
          congr 1
          omega
    refine ⟨rfl, (List.range len).map fun i => if hi : i < len then Classical.choose (each i hi) else default, fun j hj => ?_⟩
    obtain rfl : j = 0 := by omega
    refine ⟨_, rfl, some a, cap, by simp, by simpa using hl, hm, (fun hh => by cases hh), fun hn => ?_⟩
    have hn : 0 < len := by simpa using hn
    have hspot : a.spot = none := by
      obtain ⟨q, hq⟩ := each 0 hn
      obtain ⟨v, hv, _⟩ := hq 0 hs
      have : a.add (0 * s + 0) = a := by simp [Addr.add]
      rw [this] at hv
      unfold World.cell? at hv
      split at hv
      · split at hv
        · cases hv
        · rename_i hsp
          simpa using hsp
      · cases hv
    refine ⟨a.block, a.off, ?_, fun i j hi hj => ?_⟩
    · obtain ⟨b, o, spo⟩ := a
      simp only at hspot
      subst hspot
      rfl
    · have hi : i < len := by simpa using hi
      have hch := Classical.choose_spec (each i hi)
      obtain ⟨v, hv, hr⟩ := hch j hj
      refine ⟨v, ?_, ?_⟩
      · unfold World.cell? at hv
        have hblk : (a.add (i * s + j)).block = a.block := by unfold Addr.add; split <;> rfl
        have hoff : (a.add (i * s + j)).off = a.off + (i * s + j) := by
          unfold Addr.add
          split
          · rename_i h0; rw [h0]; rfl
          · rfl
        rw [hblk, hoff] at hv
        unfold cellIn nowImm
        split at hv
        · rename_i hb'
          rw [hb']
          split at hv
          · cases hv
          · exact hv
        · cases hv
      · have : lf c ((List.range len).map fun i => if hi : i < len then Classical.choose (each i hi) else default) i j = c (Classical.choose (each i hi)) j := by
          unfold lf
          simp [List.getD, hi]
        rw [this]
        exact hr
theorem rd_fields {H : Type} {enc : TypeId × Value → H} {w : World} {sp : Nat → Bool} {held : Bool} {fuel : Nat} {cs : List Value} {x : DataW H × List MemPlace} {fs : Array Field} (ht : P.underlying t = some (.struct fs)) (h : DataW.trod enc P w 0 sp held fuel t cs = some x) :
    cs.length = P.cellsOf t ∧ ∃ n, ∀ (i : Nat) (f : Field), fs[i]? = some f → ∃ y, DataW.trod enc P w 0 sp held n f.type ((cs.drop f.offset).take (P.cellsOf f.type)) = some y := by
  obtain ⟨xs, n, _, _, h1, h2, h3⟩ := DataW.trod_struct ht h
  refine ⟨h1, n, fun i f hf => ?_⟩
  have := h3 i f hf
  rw [this]
  have hi : i < xs.length := by rw [h2]; exact (Array.getElem?_eq_some_iff.1 hf).1
  exact ⟨_, List.getElem?_eq_getElem hi⟩
theorem rd_field {H : Type} {enc : TypeId × Value → H} {w : World} {sp : Nat → Bool} {held : Bool} {n off s : Nat} {ft : TypeId} {cs : List Value} {y : DataW H × List MemPlace} {α : Type} {c : α → Nat → PV} (h : Rd P ft s c) (hy : DataW.trod enc P w 0 sp held n ft ((cs.drop off).take (P.cellsOf ft)) = some y) :
    ∃ a : α, ∀ j, j < s → ∃ v, cs[off + j]? = some v ∧ RepP (nowImm w) (c a j) v := by
  obtain ⟨h1, a, h2⟩ := h _ enc w sp held n _ y hy
  refine ⟨a, fun j hj => ?_⟩
  obtain ⟨v, h3, h4⟩ := h2 j hj
  refine ⟨v, ?_, h4⟩
  rw [List.getElem?_take] at h3
  split at h3
  · rwa [List.getElem?_drop] at h3
  · cases h3
end
theorem kept_of_below {W W' : World} (hb : Below W.heap.size W W') (may : MemPlace → Prop) : W.keptBut W' may := by
  refine ⟨hb.os, hb.output, fun i hi => ?_⟩
  rw [hb.block i hi]
  cases W.heap[i]? with
  | none => exact rfl
  | some o => cases o <;> first | exact ⟨rfl, rfl, rfl, fun _ _ => rfl⟩ | exact .inr ⟨rfl, rfl⟩ | exact rfl
theorem same_of_below {W W' : World} (hb : Below W.heap.size W W') (p : MemPlace) (hp : p.block < W.heap.size) : W.sameAt W' p := by
  cases p with
  | cell b off => show W'.cell? _ = W.cell? _; unfold World.cell?; rw [hb.block b hp]
  | map b => exact hb.block b hp
section
variable {H : Type} {enc : TypeId × Value → H} {P : Program}
theorem trodAll_stays (hl : laidOutB P = true) {W W' : World} {sp' : Nat → Bool} : ∀ {ts : List TypeId} {vs : List Value} {ds : List (DataW H)} {ps : List MemPlace}, (∀ t ∈ ts, P.readableRec t = true ∧ t < P.types.size) → DataW.TrodAll enc P W 0 (fun _ => true) true ts vs ds ps →
    (∀ p ∈ ps, W.sameAt W' p) → (∀ p ∈ ps, sp' p.block = true) → DataW.TrodAll enc P W' 0 sp' true ts vs ds ps
  | [], [], [], ps, _, h, _, _ => h
  | t :: ts, v :: vs, d :: ds, ps, ht, ⟨p, q, h1, h2, e⟩, hs, hsp => by
    subst e
    refine ⟨p, q, WideElems.Trod_stays hl (ht t (by simp)).1 (ht t (by simp)).2 h1 (fun z hz => hs z (by simp [hz])) (fun z hz => hsp z (by simp [hz])), ?_, rfl⟩
    exact trodAll_stays hl (fun t ht' => ht t (by simp [ht'])) h2 (fun z hz => hs z (by simp [hz])) (fun z hz => hsp z (by simp [hz]))
  | [], _ :: _, _, _, _, h, _, _ => h.elim
  | [], [], _ :: _, _, _, h, _, _ => h.elim
  | _ :: _, [], _, _, _, h, _, _ => h.elim
  | _ :: _, _ :: _, [], _, _, h, _, _ => h.elim
theorem law_post {f : Func} {s : ChangeSpec} {W W' : World} {args : Array Value} {ds : List (DataW H)} {before : List MemPlace} {tb : TypeId} (hl : laidOutB P = true) (hpar : ∀ t ∈ f.params.toList, P.readableRec t = true ∧ t < P.types.size)
    (hres : f.resultTypes = #[tb]) (htb : P.underlying tb = some .bool) (hv : s.vars = []) (hfn : s.fn H ds = { results := [.lit (.bool true)], args := ds })
    (hW : DataW.Whole enc P f.params.toList s.vars false W args.toList ds [] before) (hb : Below W.heap.size W W') : s.post enc P f false true false false W args (.bool true) W' := by
  have hW' := hW
  have hlt : ∀ p ∈ before, p.block < W.heap.size := fun p hp => hW.lt p hp
  obtain ⟨p, q, hA, hV, rfl, hfz, hnd⟩ := hW
  rw [hv] at hV
  obtain ⟨_, rfl⟩ := trodVars_none hV
  have hfn' : s.fn H (ds ++ []) = { results := [.lit (.bool true)], args := ds } := by rw [List.append_nil]; exact hfn
  have hargs : ∀ sp : Nat → Bool, (∀ z ∈ p ++ [], sp z.block = true) → DataW.TrodAll enc P W' 0 sp true f.params.toList args.toList (s.fn H (ds ++ [])).args p := fun sp hsp => by
    rw [hfn']
    exact trodAll_stays hl hpar hA (fun z hz => same_of_below hb z (hlt z (by simpa using hz))) (fun z hz => hsp z (by simpa using hz))
  have hrs : ∀ (b : Nat) (sp : Nat → Bool) (hd : Bool), DataW.TrodAll enc P W' b sp hd f.resultTypes.toList ((Value.bool true).resultList f.resultTypes.size) (s.fn H (ds ++ [])).results [] := fun b sp hd => by
    rw [hfn', hres]
    exact trodAll_cons_mk (shut_bool htb _) trodAll_mk0
  have hok : ∀ (j : Nat) (t : TypeId) (r : Value), f.resultTypes[j]? = some t → ((Value.bool true).resultList f.resultTypes.size)[j]? = some r → Value.okWide P W' .any 0 t r := ok_one hres rfl (okWide_bool_mk htb _)
  have hvars : ∀ sp : Nat → Bool, (∀ z ∈ p ++ [], sp z.block = true) → DataW.TrodVars enc P W' sp s.vars (s.fn H (ds ++ [])).vars [] := fun sp _ => by
    rw [hfn', hv]; exact rfl
  have hold : ∀ z ∈ p ++ [], (fun b => decide (b < W.heap.size)) z.block = true := fun z hz => by simpa using hlt z hz
  refine ⟨ds, [], p ++ [], [], p, [], hW', hrs _ _ _, hargs _ hold, hvars _ hold, World.keptBut_mono (fun z hz => ⟨hz, ?_⟩) (kept_of_below hb (· ∈ p ++ [])), fun _ => ?_⟩
  · exact Or.inr (by simpa using hz)
  · refine ⟨hok, _, _, ([] ++ p) ++ [], ⟨[] ++ p, [], trodAll_append (hargs _ (fun _ _ => rfl)) (hrs _ _ _), hvars _ (fun _ _ => rfl), rfl, ?_, ?_⟩, ?_⟩
    · intro b off hp
      have hp' : MemPlace.cell b off ∈ p ++ [] := by simpa using hp
      have := hfz b off hp'
      unfold World.frozen? at this ⊢
      rw [hb.block b (hlt _ hp')]
      exact this
    · intro ha; cases ha
    · intro z hz _
      simpa using hz
end
theorem okWide_slice {P : Program} {W : World} {r : Reach} {b : Nat} {t e : TypeId} {v : Value} (ht : P.underlying t = some (.slice e)) (h : Value.okWide P W r b t v) : v.cells.toList = [v] := by
  unfold Value.okWide at h
  rw [ht] at h
  unfold Cell.okWide at h
  rw [ht] at h
  cases v <;> first | rfl | (simp [Cell.ok, ht] at h)
theorem okWide_int {P : Program} {W : World} {r : Reach} {b : Nat} {t : TypeId} {k : IntKind} {v : Value} (ht : P.underlying t = some (.int k)) (h : Value.okWide P W r b t v) : v.cells.toList = [v] := by
  unfold Value.okWide at h
  rw [ht] at h
  unfold Cell.okWide at h
  rw [ht] at h
  cases v <;> first | rfl | (simp [Cell.ok, ht] at h)
theorem rd_arg {H : Type} {enc : TypeId × Value → H} {P : Program} {W : World} {t : TypeId} {v : Value} {d : DataW H} {ps : List MemPlace} {α : Type} {c : α → Nat → PV} (h : Rd P t 1 c) (hc : v.cells.toList = [v]) (hd : DataW.Trod enc P W 0 (fun _ => true) true t v d ps) : ∃ a : α, RepP (nowImm W) (c a 0) v := by
  obtain ⟨fuel, hf⟩ := hd
  obtain ⟨_, a, ha⟩ := h _ enc W _ _ fuel _ _ hf
  obtain ⟨u, hu, hr⟩ := ha 0 (by omega)
  rw [hc] at hu
  simp only [List.getElem?_cons_zero, Option.some.injEq] at hu
  subst hu
  exact ⟨a, hr⟩
theorem law_calls {P : Program} {f : FuncId} {args : List PC} {us : List Value} {W : World} {R : Ending → World → Prop} (ht : TabOk (nowImm W)) (h : HPure P f args (prOf [.one (.raw (.bool true))])) (hr : RepPCL (nowImm W) args us) (hR : ∀ W', Below W.heap.size W W' → R (.returned (.bool true)) W') : Calls P f us.toArray W R := by
  refine (h W (nowImm W) us ht (fun _ _ hh => hh) hr).mono ?_
  rintro e w' ⟨v, imm', rfl, hv, _, _, hb⟩
  obtain ⟨rfl, _⟩ := hv
  exact hR w' hb
end Go.Hx
end
