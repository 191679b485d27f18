/- A part of the proof: lemmas for the theorem of this claim, merged by a program of ours out of X15, Ch14, Hx20, X16, Ch15, X17, Ch16. -/
import Derived.Test.YtididbpiikfaiaaDoorE15
import Derived.Test.YtididbpiikfaiaaDoorE27
set_option linter.all false
section
namespace Go.Hx
open Go.Proofs
set_option maxRecDepth 100000
theorem good24 : goodFn Tryd.prog 24 := ⟨Tryd.f24, Tryd.func24, by kernel_rfl, by kernel_rfl⟩
theorem cSteps (F : Nat) (n : Int) (l : List Rw) (p m : List Fd) (hF : tok n l = true → muC l.flatten l < F) (hFb : F ≤ 4000000000) : HPure Tryd.prog 24 [pT n l, pP (fdl p), pP (fdl m)] (prOf [pP (stl (chaseE F n l p m).1), pT (chaseE F n l p m).2.1.1 (chaseE F n l p m).2.1.2, pI (chaseE F n l p m).2.2]) := by
  refine hpure_of (nt := 53) Trydok Tryd.func24 rfl rfl (Nat.le_of_ble_eq_true rfl) ?_; refine hw_seq ?_; refine hw_region (E := TrydE) Trydok ?_; refine rm 0 rfl rfl rfl rfl rfl rfl ?_; refine rq rfl rfl rfl rfl rfl ?_
  refine rm 1 rfl rfl rfl rfl rfl rfl ?_; refine rq rfl rfl rfl rfl rfl ?_; refine rg_nil ?_; show HW _ _ _ _ _; (iterate 2 refine hw_seq ?_); refine hw_region (E := TrydE) Trydok ?_; (iterate 3 refine rq rfl rfl rfl rfl rfl ?_)
  refine rc rfl rfl rfl rfl rfl rfl good47 (cChecked n l p m) (CoL.refl _) rfl rfl ?_; refine rq rfl rfl rfl rfl rfl ?_; refine rg_nil ?_; show HW _ _ _ _ _; refine hw_seq ?_; refine hw_region (E := TrydE) Trydok ?_
  (iterate 2 refine rq rfl rfl rfl rfl rfl ?_); refine rg_nil ?_; show HW _ _ _ _ _; refine hw_cond _ rfl (fun r0 => ?_) (fun r0 => ?_)
  · skip
    have h0 := r0
    have h0 := of_decide_eq_false (not_t h0)
    try simp only [Int.toNat_natCast] at h0
    refine hw_seq ?_; refine hw_region (E := TrydE) Trydok ?_; (iterate 3 refine rq rfl rfl rfl rfl rfl ?_); refine rs rfl rfl rfl rfl rfl ?_; refine rq rfl rfl rfl rfl rfl ?_; refine rg_nil ?_; show HW _ _ _ _ _; refine hw_ret ?_
    refine ⟨.inr rfl, ?_⟩
    have he := chaseE_0 (F := F) (n := n) (l := l) (p := p) (m := m) (by assumption)
    exact ⟨_, _, _, _, rfl, (by (repeat' apply And.intro) <;> first | trivial | exact Nat.le_of_ble_eq_true rfl | rfl), rfl, (by (repeat' apply And.intro) <;> first | trivial | exact Nat.le_of_ble_eq_true rfl | rfl), by rw [he]; exact ⟨CoC.one (CoP.sl rfl (.inr rfl) (fun _ => rfl) (fun i j hi _ => absurd hi (Nat.not_lt_zero i))), CoC.agg ⟨CoP.refl _, co_nilZ, trivial⟩, CoC.refl _, trivial⟩⟩
  · skip
    have h0 := r0
    have h0 := of_decide_eq_true (not_f h0)
    try simp only [Int.toNat_natCast] at h0
    have hck : ckE n l p m = 0 := by assumption
    obtain ⟨hT, hbe, hpa⟩ := ckE_ok hck
    obtain ⟨hn0, hn16, hl256, hrow⟩ := tok_get hT
    have hbig : ∀ i, i < l.length → (l.getD i default).length ≤ 17592186044416 := fun i hi => by rw [hrow i hi]; omega
    refine hw_skip ?_; show HW _ _ _ _ _; refine hw_seq ?_; refine hw_region (E := TrydE) Trydok ?_; refine rq rfl rfl rfl rfl rfl ?_; refine rc rfl rfl rfl rfl rfl rfl good48 (cCopiedP n l hbig (by omega)) (CoL.refl _) rfl rfl ?_
    refine rs rfl rfl rfl rfl rfl ?_; refine rg_nil ?_; show HW _ _ _ _ _; refine hw_seq ?_; refine hw_region (E := TrydE) Trydok ?_; refine rq rfl rfl rfl rfl rfl ?_; refine rg_nil ?_
    refine hw_adopt 10 900 true 4 55 (lf St.c []) (by decide) rfl (CoP.sl rfl (.inr rfl) (fun h => h) (fun i j hi _ => absurd hi (Nat.not_lt_zero i))) (.inr rfl) rfl ?_; show HW _ _ _ _ _; refine hw_block ?_
    refine hw_loopK (ι := Nat × List Rw × List St) ⟨[(1, some _), (2, some _), (3, some _), (7, some _)], [(1, some _)]⟩ ⟨⟨⟨_, rfl, CoR.refl _⟩, ⟨_, rfl, CoR.refl _⟩, ⟨_, rfl, CoR.refl _⟩, ⟨_, rfl, CoR.refl _⟩, trivial⟩, ⟨⟨_, rfl, CoO.refl _⟩, trivial⟩⟩ (fun x => ⟨[(10, some (.v (.one (.ref 900 x.2.2.length))))], [(0, some (.box [.p (.raw (.int .i64 n)), .p (rl x.2.1)])), (900, some (.arr true 4 55 x.2.2.length (lf St.c x.2.2)))]⟩) (fun x => StI F n l p m x) (fun x => x.1) ((F, l, [])) (StI.start hT (hF hT)) ⟨⟨⟨_, rfl, (by first | exact CoR.refl _ | exact coi (by omega) | exact cob (by simp_all))⟩, trivial⟩, ⟨⟨_, rfl, CoO.refl _⟩, ⟨_, rfl, CoO.refl _⟩, trivial⟩⟩ ?_
    rintro x hX
    have hXu := hX.u
    have hXb := hX.b
    refine hw_block ?_; refine hw_seq ?_; refine hw_region (E := TrydE) Trydok ?_; (iterate 3 refine rq rfl rfl rfl rfl rfl ?_); refine rc rfl rfl rfl rfl rfl rfl good49 (cNext n x.2.1 p m hX.t) (CoL.refl _) rfl rfl ?_
    (iterate 3 refine rq rfl rfl rfl rfl rfl ?_); refine rm 2 rfl rfl rfl rfl rfl rfl ?_; refine rs rfl rfl rfl rfl rfl ?_; refine rq rfl rfl rfl rfl rfl ?_; refine rg_nil ?_; show HW _ _ _ _ _; (iterate 2 refine hw_seq ?_)
    refine hw_region (E := TrydE) Trydok ?_; (iterate 2 refine rq rfl rfl rfl rfl rfl ?_); refine rg_nil ?_; show HW _ _ _ _ _; refine hw_cond _ rfl (fun r1 => ?_) (fun r1 => ?_)
    · skip
      have h1 := r1
      have h1 := not_t h1
      have hS := none_of (by simpa using h1)
      refine hw_seq ?_; refine hw_draw (E := TrydE) Trydok Trydmixed [0, 1, 2, 3, 4] ?_; (iterate 3 refine rq rfl rfl rfl rfl rfl ?_); refine rs rfl rfl rfl rfl rfl ?_; refine rq rfl rfl rfl rfl rfl ?_; refine rg_nil ?_
      refine ⟨by kernel_rfl, ?_⟩; refine hw_freeze 6 rfl rfl rfl ?_; show HW _ _ _ _ _; refine hw_ret ?_; refine ⟨.inr rfl, ?_⟩
      have he := (chaseE_1 hck).trans (hX.fin hS)
      exact ⟨_, _, _, _, rfl, (by (repeat' apply And.intro) <;> first | trivial | exact Nat.le_of_ble_eq_true rfl | rfl), rfl, (by (repeat' apply And.intro) <;> first | trivial | exact Nat.le_of_ble_eq_true rfl | rfl), by rw [he]; exact CoL.refl _⟩
    · skip
      have h1 := r1
      have h1 := not_f h1
      have hS := some_of (false, 0, 0, 0) (by simpa using h1)
      refine hw_skip ?_; show HW _ _ _ _ _; refine hw_seq ?_; refine hw_region (E := TrydE) Trydok ?_; (iterate 4 refine rq rfl rfl rfl rfl rfl ?_)
      refine rc rfl rfl rfl rfl rfl rfl good50 (cApply n x.2.1 p m ((nextE x.2.1 p m).getD (false, 0, 0, 0)) hX.t hpa (next_ok hS)) (CoL.refl _) rfl rfl ?_; (iterate 3 refine rq rfl rfl rfl rfl rfl ?_)
      refine rm 3 rfl rfl rfl rfl rfl rfl ?_; refine rs rfl rfl rfl rfl rfl ?_; refine rq rfl rfl rfl rfl rfl ?_; refine rg_nil ?_; show HW _ _ _ _ _; (iterate 2 refine hw_seq ?_); refine hw_region (E := TrydE) Trydok ?_
      (iterate 2 refine rq rfl rfl rfl rfl rfl ?_); refine rg_nil ?_; show HW _ _ _ _ _; refine hw_cond _ rfl (fun r2 => ?_) (fun r2 => ?_)
      · skip
        have h2 := r2
        have h2 := of_decide_eq_false (not_t h2)
        try simp only [Int.toNat_natCast] at h2
        refine hw_seq ?_; refine hw_region (E := TrydE) Trydok ?_; (iterate 3 refine rq rfl rfl rfl rfl rfl ?_); refine rs rfl rfl rfl rfl rfl ?_; refine rq rfl rfl rfl rfl rfl ?_; refine rg_nil ?_; show HW _ _ _ _ _
        refine hw_ret ?_; refine ⟨.inr rfl, ?_⟩
        have he := (chaseE_1 hck).trans (hX.err hS (by assumption))
        exact ⟨_, _, _, _, rfl, (by (repeat' apply And.intro) <;> first | trivial | exact Nat.le_of_ble_eq_true rfl | rfl), rfl, (by (repeat' apply And.intro) <;> first | trivial | exact Nat.le_of_ble_eq_true rfl | rfl), by rw [he]; exact ⟨CoC.one (CoP.sl rfl (.inr rfl) (fun _ => rfl) (fun i j hi _ => absurd hi (Nat.not_lt_zero i))), CoC.agg ⟨CoP.refl _, co_nilZ, trivial⟩, CoC.refl _, trivial⟩⟩
      · skip
        have h2 := r2
        have h2 := of_decide_eq_true (not_f h2)
        try simp only [Int.toNat_natCast] at h2
        have hnx := hX.next hpa hS (by assumption)
        refine hw_skip ?_; show HW _ _ _ _ _; refine hw_draw (E := TrydE) Trydok Trydmixed [0, 1, 2, 3, 4, 5, 6] ?_; (iterate 2 refine rq rfl rfl rfl rfl rfl ?_); refine rm 4 rfl rfl rfl rfl rfl rfl ?_
        refine ra 5 true rfl rfl rfl rfl rfl rfl ?_; (iterate 2 refine rq rfl rfl rfl rfl rfl ?_); refine rs rfl rfl rfl rfl rfl ?_; refine rg_nil ?_; refine ⟨by kernel_rfl, ?_⟩
        refine ⟨(x.1 - 1, (appE n x.2.1 p m ((nextE x.2.1 p m).getD (false, 0, 0, 0))).2.1, x.2.2 ++ [((nextE x.2.1 p m).getD (false, 0, 0, 0))]), ?_, ?_, ?_⟩
        · exact hnx.2
        · show x.1 - 1 < x.1
          omega
        · exact ⟨⟨⟨_, rfl, (ref_app rfl)⟩, ⟨_, rfl, CoR.refl _⟩, ⟨_, rfl, CoR.refl _⟩, ⟨_, rfl, CoR.refl _⟩, ⟨_, rfl, CoR.refl _⟩, trivial⟩, ⟨⟨_, rfl, ⟨CoP.of_eq (by rw [hnx.1]), CoH.refl _, trivial⟩⟩, ⟨_, rfl, (arr_app rfl (fun j hj => by match j, hj with | 0, _ => exact CoP.refl _ | 1, _ => exact CoP.refl _ | 2, _ => exact CoP.refl _ | 3, _ => exact CoP.refl _) rfl)⟩, ⟨_, rfl, CoO.refl _⟩, trivial⟩⟩
end Go.Hx
end
section
namespace Go.Hx
theorem flat_len : ∀ {l : List Rw}, (∀ r, r ∈ l → r.length ≤ 16) → l.flatten.length ≤ 16 * l.length
  | [], _ => by simp
  | r :: l, h => by
    have h1 := h r (by simp)
    have h2 := flat_len (l := l) fun r hr => h r (by simp [hr])
    simp only [List.flatten_cons, List.length_append, List.length_cons]
    omega
abbrev FU : Nat := 1300000
theorem mu_all {n : Int} {l : List Rw} (h : tok n l = true) : muC l.flatten l < FU := by
  obtain ⟨h0, h1, h2, h3⟩ := tok_get h
  have h4 := flat_len (l := l) fun r hr => by have := (tok_wel h r hr).1; omega
  have h5 : symC l.flatten l ≤ l.flatten.length := List.countP_le_length
  unfold muC
  show _ < 1300000
  omega
theorem co_st0 {n : Int} {i : Nat} {p : AS} {k a N : Nat} (h : hasI p (k : Int) = true) (hN : N = n.toNat) (ha : a = k) :
    CoO (.arr true 1 3 N (setEl (lf zC (stT n i p k)) a 0 [.raw (.int .i64 (k : Int))])) (.arr true 1 3 N (lf zC (stT n i p (k + 1)))) := by
  subst ha
  refine ⟨fun h => h, rfl, rfl, rfl, fun c j hc hj => CoP.of_eq ?_⟩
  obtain rfl : j = 0 := by omega
  show _ = PV.raw (.int .i64 ((stT n i p (a + 1)).getD c default))
  rw [stT_next c (by omega)]
  unfold setEl
  by_cases e : c = a
  · rw [if_pos ⟨e, by omega, by simp⟩, if_pos e]
    unfold stV
    rw [if_pos h]
    rfl
  · rw [if_neg (fun x => e x.1), if_neg e]
    rfl
theorem full32 {k : Nat} (h : k < 32) : hasI (fullS 32) (k : Int) = true := by
  rw [hasI_nat h, fullS_bit 32 k h]
  exact decide_eq_true h
theorem stT_first {n : Int} {k : Nat} (h1 : n ≤ 16) (hk : n.toNat ≤ k) : stT n 0 (fullS 32) k = firstZ n := by
  rw [stT_end _ _ _ hk]
  unfold stR firstZ
  refine List.map_congr_left fun c hc => ?_
  have := List.mem_range.1 hc
  unfold stV
  rw [if_pos (full32 (by omega))]
theorem co_firstT {n : Int} {k : Nat} (h1 : n ≤ 16) (hk : n.toNat ≤ k) : CoC (.one (.sl n.toNat 1 false (lf zC (stT n 0 (fullS 32) k)))) (pZ (firstZ n)) := by
  rw [stT_first h1 hk]
  exact co_zl (firstZ_len n)
theorem co_g1 {a b : AS} : CoP (.raw (.int .u32 (bitV .or .u32 (asI a) (asI b)))) (asC (a ||| b)) := CoP.of_eq (by rw [bOr]; rfl)
theorem co_g2 {n : Int} {a b : AS} (h0 : 0 ≤ n) (h1 : n ≤ 16) : CoP (.raw (.int .u32 (bitV .or .u32 (asI a) (bitV .andNot .u32 (IntKind.wrap .u32 (1 * 2 ^ (min n.toNat 32)) - 1) (asI b))))) (asC (a ||| (fullI n &&& ~~~b))) := CoP.of_eq (by rw [full_v h0 h1, bNot, bOr]; rfl)
abbrev goalS (n : Int) (x : Fd) : List AS := [x.lhs ||| x.rhs, x.lhs ||| (fullI n &&& ~~~x.rhs)]
def implE (n : Int) (p m : List Fd) (x : Fd) : Bool × Int :=
  if bErr n p m = 0 then
    if inU n x = true then
      if (startE n (goalS n x)).2.2 = 0 then
        if (chaseE FU (startE n (goalS n x)).1 (startE n (goalS n x)).2.1 p m).2.2 = 0 then ((chaseE FU (startE n (goalS n x)).1 (startE n (goalS n x)).2.1 p m).2.1.2.any (fun r => decide (r = firstZ n)), 0)
        else (false, (chaseE FU (startE n (goalS n x)).1 (startE n (goalS n x)).2.1 p m).2.2)
      else (false, (startE n (goalS n x)).2.2)
    else (false, 1)
  else (false, bErr n p m)
end Go.Hx
end
section
namespace Go.Hx
open Go.RowKit
def HIter (P : Program) (g : FuncId) (caps : List PC) (n : Nat) (xs : Nat → List PC) : Prop :=
  ∀ (imm : Imm) (_ : TabOk imm) (us : List Value) (W : World) (l : Nat) (J : Nat → World → Prop), RepPCL imm caps us →
    (∀ i A, J i A → ∀ b ob, imm b = some ob → A.heap[b]? = some ob) →
    (∀ i A A', J i A → Below A.heap.size A A' → J i A') →
    (∀ i A vs, i < n → J i A → RepPCL imm (xs i) vs → YieldAt (rf none) 0 P l vs.toArray A fun e A' => e = .returned (.bool true) ∧ J (i + 1) A') →
    J 0 W → CallsIn (rf none) 0 P g (#[.func (.yield l) #[] #[]] ++ us.toArray) W fun e W' => (∃ v, e = .returned v) ∧ J n W'
section
variable {P : Program} {nt : Nat} {c : Ctx} {s : S} {a : Act} {w w0 : World}
end
def renT (r : Nat → Nat) : List (Nat × Option HR) → List (Nat × Option HR)
  | [] => []
  | (d, some x) :: l => (d, some (x.ren r)) :: renT r l
  | (d, none) :: l => (d, none) :: renT r l
def rgB (r : Nat → Nat) (T : List (Nat × Option HR)) (o1 o2 : List (Nat × HObj)) (fx : List Nat) : Bool :=
  (fx.all fun id => Nat.ble 1000 (r id)) && ((keys o2).all fun id => (hasK fx id && hasK (keys o1) id) || (Nat.blt id 1000 && nmT id T)) && (idsO o2).all (hasK (keys o2))
def asgQ (P : Program) (nt l : Nat) (body : Code) (Q : HSt → Prop) (e : Exit) (st : HSt) : Prop := e = .normal ∧ HW (ro := some l) P nt body st fun e st => e = .normal ∧ Q st
section
variable {P : Program} {E : Env} {nt : Nat} {ops : Array Oper} {i : Nat} {o : Oper} {Q : Exit → Act → World → Prop} {a : Act} {A : World} {imm : Imm}
def putT (d : Option Tmp) (x : HR) (t : List (Nat × Option HR)) : List (Nat × Option HR) := match d with | some d => (d, some x) :: t | none => t
class TabC (imm : Imm) : Prop where
  ok : TabOk imm
def cI (imm : Imm) (A : World) [ht : TabC imm] : Ctx := { old := (imm, nowImm A, (fun _ => undef), (fun _ => none), fun _ _ => undef), imm := imm, tab := ht.ok, own := fun _ => undef, blk := fun _ => noB, rows := fun _ _ => undef }
variable [TabC imm]
structure It (imm : Imm) [TabC imm] (nt : Nat) (t : List (Nat × Option HR)) (a : Act) (A : World) : Prop where
  defers : a.defers = []
  rel : RelC A nt (cI imm A) ⟨look t, fun _ => none⟩ a A
theorem It.sub {t t' : List (Nat × Option HR)} (h : It imm nt t a A) (hs : subT t' t) : It imm nt t' a A :=
  ⟨h.defers, h.rel.relax ⟨look t', fun _ => none⟩ (fun d x hx => subT_spec hs d x hx) (fun id ob ho => by cases ho)⟩
theorem It.move {t : List (Nat × Option HR)} {A' : World} (h : It imm nt t a A) (hi : ∀ b ob, imm b = some ob → A'.heap[b]? = some ob) : It imm nt t a A' := by
  refine ⟨h.defers, by rw [h.defers]; exact Marks.nil _ _ _ _, h.rel.size, Below.refl _ _, fun d x hx => ?_, (fun id ob ho => by cases ho), (fun i i' ob ob' b ho => by cases ho), hi, (fun id ob b ho => by cases ho), fun b _ => rfl, fun b ob hb => hb, (fun id ob b ho => by cases ho), fun id _ => .inl rfl⟩
  exact RepHR.evo (c := cI imm A) (o := fun _ => none) (Imm.le.refl imm) (fun _ _ => .inl rfl) (h.rel.tmps d x hx)
theorem It.put {t : List (Nat × Option HR)} (h : It imm nt t a A) {d : Option Tmp} (hd : dstOk nt d = true) (x : HR) (v : Value) (hx : RepHR (cI imm A) (fun _ => none) x v) : It imm nt (putT d x t) (a.put d v) A := by
  cases d with
  | none => exact h
  | some d =>
    have := h.rel.put d (of_decide_eq_true hd) (some x) v (fun y hy => by cases hy; exact hx)
    refine ⟨h.defers, ?_⟩
    have e : (S.put ⟨look t, fun _ => none⟩ d (some x)) = ⟨look ((d, some x) :: t), fun _ => none⟩ := by
      unfold S.put
      simp [look_cons]
    rw [e] at this
    exact this
theorem it_eval {t : List (Nat × Option HR)} (h : It imm nt t a A) {x : Operand} {r : HR} (hx : ev ⟨look t, fun _ => none⟩ x = some r) : RepHR (cI imm A) (fun _ => none) r (a.eval x) := ev_sound h.rel hx
theorem iy {t : List (Nat × Option HR)} {L : List Nat} {cl : Call} {f : Operand} {l : Nat} {R : World → Prop} (h : It imm nt t a A) (hi : ops[i]? = some o) (hw : wantedH ops ⟨look t, fun _ => none⟩ o = some true) (hd : dstOk nt o.dst = true) (ho : o.op = .call cl) (hcl : cl.callee = .value f) (hf : ev ⟨look t, fun _ => none⟩ f = some (oneP (.raw (.func (.yield l) #[] #[]))))
    (hy : YieldAt (rf none) 0 P l (cl.args.toList.map a.eval).toArray A fun e A' => e = .returned (.bool true) ∧ R A') (him : ∀ A', R A' → ∀ b ob, imm b = some ob → A'.heap[b]? = some ob)
    (hK : ∀ a' A', R A' → It imm nt (putT o.dst (oneP (.raw (.bool true))) t) a' A' → wpOpsIn (rf none) 0 P ops Q L a' A') : wpOpsIn (rf none) 0 P ops Q (i :: L) a A := by
  rw [wpOpsIn_cons]
  unfold wpOpIn
  simp only [hi]
  rw [if_pos (wantedH_sound h.rel hw)]
  obtain ⟨fn, tmps, assign, body, hyr, hround⟩ := hy
  have hfe : a.eval f = .func (.yield l) #[] #[] := (it_eval h hf).1
  refine ⟨fun _ _ => trivial, ?_⟩
  have hsem : Oper.semAt (rf none).round a.eval o = execOp a.eval o := rfl
  rw [hsem]
  have hma : (cl.args.toList.map a.eval).toArray = cl.args.map a.eval := by apply Array.toList_inj.1; rw [Array.toList_map]
  rw [hma] at hyr
  have hrun : (execOp a.eval o).run P A = .ok (.round l fn tmps assign body) A := by
    simp only [execOp, ho, resolve, hcl, hfe, Sem.run_bind, Deferred.ofValue, Sem.run_pure, Result.andThen_ok, invoke]
    simpa using hyr
  rw [hrun, Oper.uponIn_round]
  refine ⟨fun hh => absurd hh (by simp [rf]), hround.mono ?_⟩
  rintro e A' ⟨rfl, hR⟩
  exact hK _ A' hR ((h.move (him A' hR)).put hd (oneP (.raw (.bool true))) (.bool true) ⟨rfl, rfl⟩)
end
theorem CoP.vp {k k' : Nat} {f f' : Nat → PV} (hk : k' = k) (hf : ∀ j, j < k → CoP (f j) (f' j)) : CoP (.vp k f) (.vp k' f') := by
  subst hk
  rintro m u ⟨b, off, rfl, h⟩
  exact ⟨b, off, rfl, fun j hj => by
    obtain ⟨x, hx, hr⟩ := h j hj
    exact ⟨x, hx, hf j hj m x hr⟩⟩
theorem CoP.fn {g : FuncId} {k k' : Nat} {f f' : Nat → PV} (hk : k' = k) (hf : ∀ j, j < k → CoP (f j) (f' j)) : CoP (.fn g k f) (.fn g k' f') := by
  subst hk
  rintro m u ⟨cs, rfl, hl, h⟩
  exact ⟨cs, rfl, hl, fun j hj => by
    obtain ⟨x, hx, hr⟩ := h j hj
    exact ⟨x, hx, hf j hj m x hr⟩⟩
def RN (P : Program) (nt : Nat) (ops : Array Oper) (L : List Nat) (st : HSt) (Q : HSt → Prop) : Prop :=
  ∀ (ro : Option Nat) (n : Nat) w0 m0 a w (QQ : Exit → Act → World → Prop), Rel w0 m0 nt st.den a w → (∀ st' a' w', Q st' → Rel w0 m0 nt st'.den a' w' → QQ .normal a' w') → wpOpsIn (rf ro) n P ops QQ L a w
section
variable {P : Program} {E : Env} {nt : Nat} {ops : Array Oper} {st : HSt}
theorem wpOps_split (hE : EnvOk P E) {ro : Option Nat} {n : Nat} {w0 : World} {m0 : Old} {sf : S} {L2 : List Nat} {QQ : Exit → Act → World → Prop} (hQ : ∀ a' w', Rel w0 m0 nt sf a' w' → wpOpsIn (rf ro) n P ops QQ L2 a' w') :
    ∀ (T : List Tr) (s : S) (a : Act) (w : World), Chain P E nt ops T s sf → Rel w0 m0 nt s a w → wpOpsIn (rf ro) n P ops QQ (T.map (·.i) ++ L2) a w
  | [], s, a, w, hT, hr => by
    cases hT
    exact hQ _ _ hr
  | t :: T, s, a, w, hT, hr => by
    cases hT with
    | cons hi he hR hO hF hrest =>
    rw [List.map_cons, List.cons_append, wpOpsIn_cons]
    exact eff_sound hE he hr hi fun a' w' hr' => wpOps_split hE hQ T _ a' w' hrest hr'
theorem rn_reg (hE : EnvOk P E) {L1 L2 : List Nat} {Q : HSt → Prop} (h : Reg P E nt ops L1 st fun _ sf => RN P nt ops L2 sf Q) : RN P nt ops (L1 ++ L2) st Q := fun ro n w0 m0 a w QQ hr hQ => by
  obtain ⟨T, sf, hl, hT, h⟩ := h
  rw [← hl]
  exact wpOps_split hE (fun a' w' hr' => h ro n w0 m0 a' w' QQ hr' hQ) T _ a w hT hr
theorem rn_nil {Q : HSt → Prop} (h : Q st) : RN P nt ops [] st Q := fun ro n w0 m0 a w QQ hr hQ => hQ st a w h hr
theorem rn_he {L : List Nat} {Q : HSt → Prop} (h : HE nt st fun st' => RN P nt ops L st' Q) : RN P nt ops L st Q := fun ro n w0 m0 a w QQ hr hQ => by
  obtain ⟨st', h1, h2⟩ := h w0 m0 a w hr
  exact h1 ro n w0 m0 a w QQ h2 hQ
theorem hw_regionN {ro : Option Nat} {Q : Exit → HSt → Prop} {id : Nat} (L1 L2 : List Nat) (hl : List.range ops.size = L1 ++ L2) (h : RN P nt ops (L1 ++ L2) st (Q .normal)) : HW (ro := ro) P nt (.region id ops false) st Q := fun w0 m0 a w hr => by
  refine wpIn_region ?_
  rw [hl]
  exact h ro 0 w0 m0 a w _ hr fun st' a' w' hq hr' => ⟨st', hq, hr'⟩
theorem he_put {Q : HSt → Prop} (st1 : HSt) (d : Nat) (x : HR) (hs : ∀ w0 m0 a w, Rel w0 m0 nt st.den a w → ∃ cc, cc.old = m0 ∧ RelC w0 nt cc st1.den a w ∧ RepHR cc st1.den.o x (a.tmps.getD d undef))
    (h : HE nt ⟨(d, some x) :: st1.t, st1.o⟩ Q) : HE nt st Q := fun w0 m0 a w hr => by
  obtain ⟨cc, hold, hrr, hx⟩ := hs w0 m0 a w hr
  refine h w0 m0 a w ⟨cc, hold, hrr.defers, hrr.size, hrr.below, fun k y hy => ?_, hrr.objs, hrr.inj, hrr.imm, hrr.sep, hrr.was, hrr.frm, hrr.fsep, hrr.fixed⟩
  simp only [HSt.den] at hy
  rw [look_cons] at hy
  dsimp only at hy
  split at hy
  · rename_i hk
    subst hk
    simp only [Option.some.injEq] at hy
    subst hy
    exact hx
  · exact hrr.tmps k y hy
theorem he_freeze {Q : HSt → Prop} (d : Nat) {id n n' s : Nat} {wr : Bool} {e : TypeId} {f : Nat → Nat → PV} (hd : look st.t d = some (.v (.one (.ref id n)))) (ho : look st.o id = some (.arr wr s e n' f)) (hn : n' = n)
    (h : HE nt ⟨(d, some (oneP (.sl n s false f))) :: st.t, (id, none) :: st.o⟩ Q) : HE nt st Q := by
  subst hn
  refine he_put ⟨st.t, (id, none) :: st.o⟩ d (oneP (.sl n' s false f)) (fun w0 m0 a w hr => ?_) h
  obtain ⟨cc, hold, hrr⟩ := hr
  refine ⟨_, ?_, by rw [den_drop]; exact hrr.freeze ho, ?_⟩
  · exact hold
  · obtain ⟨_, _, h3⟩ := hrr.tmps d _ hd
    have := (h3 _ _ _ _ ho rfl).2 rfl
    rw [this]
    exact frozen_arr hrr ho
end
end Go.Hx
end
section
namespace Go.Hx
open Go.Proofs
set_option maxRecDepth 100000
theorem good26 : goodFn Tryd.prog 26 := ⟨Tryd.f26, Tryd.func26, by kernel_rfl, by kernel_rfl⟩
theorem cRun (n : Int) (l : List Rw) (p m : List Fd) : HPure Tryd.prog 26 [pT n l, pP (fdl p), pP (fdl m)] (prOf [pT (chaseE FU n l p m).2.1.1 (chaseE FU n l p m).2.1.2, pI (chaseE FU n l p m).2.2]) := by
  refine hpure_of (nt := 21) Trydok Tryd.func26 rfl rfl (Nat.le_of_ble_eq_true rfl) ?_; refine hw_seq ?_; refine hw_region (E := TrydE) Trydok ?_; refine rm 0 rfl rfl rfl rfl rfl rfl ?_; refine rm 1 rfl rfl rfl rfl rfl rfl ?_
  refine rq rfl rfl rfl rfl rfl ?_; refine rg_nil ?_; show HW _ _ _ _ _; refine hw_seq ?_; refine hw_region (E := TrydE) Trydok ?_; (iterate 3 refine rq rfl rfl rfl rfl rfl ?_)
  refine rc rfl rfl rfl rfl rfl rfl good24 (cSteps FU n l p m (fun h => mu_all h) (by decide)) (CoL.refl _) rfl rfl ?_; (iterate 4 refine rq rfl rfl rfl rfl rfl ?_); refine rm 2 rfl rfl rfl rfl rfl rfl ?_
  refine rq rfl rfl rfl rfl rfl ?_; refine rs rfl rfl rfl rfl rfl ?_; refine rq rfl rfl rfl rfl rfl ?_; refine rg_nil ?_; show HW _ _ _ _ _; refine hw_seq ?_; refine hw_region (E := TrydE) Trydok ?_
  (iterate 2 refine rq rfl rfl rfl rfl rfl ?_); refine rs rfl rfl rfl rfl rfl ?_; refine rq rfl rfl rfl rfl rfl ?_; refine rg_nil ?_; show HW _ _ _ _ _; refine hw_ret ?_; refine ⟨.inr rfl, ?_⟩
  exact ⟨_, _, _, _, rfl, (by (repeat' apply And.intro) <;> first | trivial | exact Nat.le_of_ble_eq_true rfl | rfl), rfl, (by (repeat' apply And.intro) <;> first | trivial | exact Nat.le_of_ble_eq_true rfl | rfl), CoL.refl _⟩
theorem good31 : goodFn Tryd.prog 31 := ⟨Tryd.f31, Tryd.func31, by kernel_rfl, by kernel_rfl⟩
theorem cSat (n : Int) (l : List Rw) (p m : List Fd) : HPure Tryd.prog 31 [pT n l, pP (fdl p), pP (fdl m)] (prOf [pB (decide (ckE n l p m = 0) && (nextE l p m).isNone)]) := by
  refine hpure_of (nt := 23) Trydok Tryd.func31 rfl rfl (Nat.le_of_ble_eq_true rfl) ?_; refine hw_seq ?_; refine hw_region (E := TrydE) Trydok ?_; refine rm 0 rfl rfl rfl rfl rfl rfl ?_; refine rq rfl rfl rfl rfl rfl ?_
  refine rg_nil ?_; show HW _ _ _ _ _; (iterate 2 refine hw_seq ?_); refine hw_region (E := TrydE) Trydok ?_; (iterate 3 refine rq rfl rfl rfl rfl rfl ?_)
  refine rc rfl rfl rfl rfl rfl rfl good47 (cChecked n l p m) (CoL.refl _) rfl rfl ?_; refine rq rfl rfl rfl rfl rfl ?_; refine rg_nil ?_; show HW _ _ _ _ _; refine hw_cond _ rfl (fun r0 => ?_) (fun r0 => ?_)
  · skip
    have h0 := r0
    have h0 := of_decide_eq_false (not_t h0)
    try simp only [Int.toNat_natCast] at h0
    refine hw_seq ?_; refine hw_region (E := TrydE) Trydok ?_; refine rq rfl rfl rfl rfl rfl ?_; refine rg_nil ?_; show HW _ _ _ _ _; refine hw_ret ?_; refine ⟨.inr rfl, ?_⟩
    exact ⟨_, _, _, _, rfl, (by (repeat' apply And.intro) <;> first | trivial | exact Nat.le_of_ble_eq_true rfl | rfl), rfl, (by (repeat' apply And.intro) <;> first | trivial | exact Nat.le_of_ble_eq_true rfl | rfl), ⟨ccb (by rw [decide_eq_false (by assumption)]; rfl), trivial⟩⟩
  · skip
    have h0 := r0
    have h0 := of_decide_eq_true (not_f h0)
    try simp only [Int.toNat_natCast] at h0
    have hck : ckE n l p m = 0 := by assumption
    refine hw_skip ?_; show HW _ _ _ _ _; refine hw_seq ?_; refine hw_region (E := TrydE) Trydok ?_; (iterate 3 refine rq rfl rfl rfl rfl rfl ?_)
    refine rc rfl rfl rfl rfl rfl rfl good49 (cNext n l p m (ckE_ok hck).1) (CoL.refl _) rfl rfl ?_; (iterate 3 refine rq rfl rfl rfl rfl rfl ?_); refine rm 1 rfl rfl rfl rfl rfl rfl ?_; refine rs rfl rfl rfl rfl rfl ?_
    refine rq rfl rfl rfl rfl rfl ?_; refine rg_nil ?_; show HW _ _ _ _ _; refine hw_seq ?_; refine hw_region (E := TrydE) Trydok ?_; (iterate 3 refine rq rfl rfl rfl rfl rfl ?_); refine rg_nil ?_; show HW _ _ _ _ _
    refine hw_ret ?_; refine ⟨.inr rfl, ?_⟩
    exact ⟨_, _, _, _, rfl, (by (repeat' apply And.intro) <;> first | trivial | exact Nat.le_of_ble_eq_true rfl | rfl), rfl, (by (repeat' apply And.intro) <;> first | trivial | exact Nat.le_of_ble_eq_true rfl | rfl), ⟨ccb (by rw [decide_eq_true hck]; cases nextE l p m <;> rfl), trivial⟩⟩
theorem good28 : goodFn Tryd.prog 28 := ⟨Tryd.f28, Tryd.func28, by kernel_rfl, by kernel_rfl⟩
theorem cImplT (n : Int) (p m : List Fd) (x : Fd) : HPure Tryd.prog 28 [pI n, pP (fdl p), pP (fdl m), x.pc] (prOf [pB (implE n p m x).1, pI (implE n p m x).2]) := by
  refine hpure_of (nt := 81) Trydok Tryd.func28 rfl rfl (Nat.le_of_ble_eq_true rfl) ?_; refine hw_seq ?_; refine hw_region (E := TrydE) Trydok ?_; refine rm 0 rfl rfl rfl rfl rfl rfl ?_; (iterate 2 refine rq rfl rfl rfl rfl rfl ?_)
  refine rg_nil ?_; show HW _ _ _ _ _; (iterate 2 refine hw_seq ?_); refine hw_region (E := TrydE) Trydok ?_; (iterate 3 refine rq rfl rfl rfl rfl rfl ?_)
  refine rc rfl rfl rfl rfl rfl rfl good54 (cBValid n p m) (CoL.refl _) rfl rfl ?_; refine rq rfl rfl rfl rfl rfl ?_; refine rg_nil ?_; show HW _ _ _ _ _; refine hw_seq ?_; refine hw_region (E := TrydE) Trydok ?_
  (iterate 2 refine rq rfl rfl rfl rfl rfl ?_); refine rg_nil ?_; show HW _ _ _ _ _; refine hw_cond _ rfl (fun r0 => ?_) (fun r0 => ?_)
  · skip
    have h0 := r0
    have h0 := of_decide_eq_false (not_t h0)
    try simp only [Int.toNat_natCast] at h0
    refine hw_seq ?_; refine hw_region (E := TrydE) Trydok ?_; (iterate 3 refine rq rfl rfl rfl rfl rfl ?_); refine rg_nil ?_; show HW _ _ _ _ _; refine hw_ret ?_; refine ⟨.inr rfl, ?_⟩
    have he : implE n p m x = (false, bErr n p m) := if_neg (by assumption)
    exact ⟨_, _, _, _, rfl, (by (repeat' apply And.intro) <;> first | trivial | exact Nat.le_of_ble_eq_true rfl | rfl), rfl, (by (repeat' apply And.intro) <;> first | trivial | exact Nat.le_of_ble_eq_true rfl | rfl), by rw [he]; exact CoL.refl _⟩
  · skip
    have h0 := r0
    have h0 := of_decide_eq_true (not_f h0)
    try simp only [Int.toNat_natCast] at h0
    have hbe : bErr n p m = 0 := by assumption
    obtain ⟨hz0, hz1, _, _⟩ := bErr_ok hbe
    refine hw_skip ?_; show HW _ _ _ _ _; (iterate 2 refine hw_seq ?_); refine hw_region (E := TrydE) Trydok ?_; (iterate 8 refine rq rfl rfl rfl rfl rfl ?_); refine rg_nil ?_; show HW _ _ _ _ _
    refine hw_cond _ rfl (fun r1 => ?_) (fun r1 => ?_)
    · skip
      have h1 := r1
      have h1 := of_decide_eq_false (not_t h1)
      try simp only [Int.toNat_natCast] at h1
      have hu : ¬ inU n x = true := fun e => absurd (shr_iff.2 e) (by assumption)
      refine hw_seq ?_; refine hw_region (E := TrydE) Trydok ?_; (iterate 2 refine rq rfl rfl rfl rfl rfl ?_); refine rg_nil ?_; show HW _ _ _ _ _; refine hw_ret ?_; refine ⟨.inr rfl, ?_⟩
      have he : implE n p m x = (false, 1) := (if_pos hbe).trans (if_neg hu)
      exact ⟨_, _, _, _, rfl, (by (repeat' apply And.intro) <;> first | trivial | exact Nat.le_of_ble_eq_true rfl | rfl), rfl, (by (repeat' apply And.intro) <;> first | trivial | exact Nat.le_of_ble_eq_true rfl | rfl), by rw [he]; exact CoL.refl _⟩
    · skip
      have h1 := r1
      have h1 := of_decide_eq_true (not_f h1)
      try simp only [Int.toNat_natCast] at h1
      have hu := shr_iff.1 (by assumption)
      refine hw_skip ?_; show HW _ _ _ _ _; refine hw_seq ?_; refine hw_region (E := TrydE) Trydok ?_; (iterate 2 refine rq rfl rfl rfl rfl rfl ?_); refine rq rfl rfl rfl rfl rfl ?_ (hp := ⟨full_pre hz0 hz1, full_pre2 hz0 hz1⟩)
      refine rq rfl rfl rfl rfl rfl ?_; refine rg_nil ?_; show HW _ _ _ _ _; refine hw_seq ?_; refine hw_regionN [0, 1, 2, 3, 4, 5, 6, 7, 8, 9, 10, 11, 12, 13] [14, 15, 16, 17, 18, 19, 20] rfl ?_
      refine rn_reg (E := TrydE) Trydok ?_; (iterate 13 refine rq rfl rfl rfl rfl rfl ?_); refine rm 1 rfl rfl rfl rfl rfl rfl ?_; refine rg_nil ?_; refine rn_he ?_; refine he_freeze 49 rfl rfl rfl ?_; refine he_done ?_
      refine rn_reg (E := TrydE) (L1 := [14, 15, 16, 17, 18, 19, 20]) (L2 := []) Trydok ?_; refine rc rfl rfl rfl rfl rfl rfl good19 (cStart n (goalS n x)) (⟨CoC.refl _, CoC.one (co_lit2 co_g1 (co_g2 hz0 hz1)), trivial⟩) rfl rfl ?_
      (iterate 3 refine rq rfl rfl rfl rfl rfl ?_); refine rm 2 rfl rfl rfl rfl rfl rfl ?_; refine rs rfl rfl rfl rfl rfl ?_; refine rq rfl rfl rfl rfl rfl ?_; refine rg_nil ?_; refine rn_nil ?_; show HW _ _ _ _ _
      (iterate 2 refine hw_seq ?_); refine hw_region (E := TrydE) Trydok ?_; (iterate 2 refine rq rfl rfl rfl rfl rfl ?_); refine rg_nil ?_; show HW _ _ _ _ _; refine hw_cond _ rfl (fun r2 => ?_) (fun r2 => ?_)
      · skip
        have h2 := r2
        have h2 := of_decide_eq_false (not_t h2)
        try simp only [Int.toNat_natCast] at h2
        refine hw_seq ?_; refine hw_region (E := TrydE) Trydok ?_; (iterate 3 refine rq rfl rfl rfl rfl rfl ?_); refine rg_nil ?_; show HW _ _ _ _ _; refine hw_ret ?_; refine ⟨.inr rfl, ?_⟩
        have he : implE n p m x = (false, (startE n (goalS n x)).2.2) := (if_pos hbe).trans ((if_pos hu).trans (if_neg (by assumption)))
        exact ⟨_, _, _, _, rfl, (by (repeat' apply And.intro) <;> first | trivial | exact Nat.le_of_ble_eq_true rfl | rfl), rfl, (by (repeat' apply And.intro) <;> first | trivial | exact Nat.le_of_ble_eq_true rfl | rfl), by rw [he]; exact CoL.refl _⟩
      · skip
        have h2 := r2
        have h2 := of_decide_eq_true (not_f h2)
        try simp only [Int.toNat_natCast] at h2
        have hs0 : (startE n (goalS n x)).2.2 = 0 := by assumption
        refine hw_skip ?_; show HW _ _ _ _ _; refine hw_seq ?_; refine hw_region (E := TrydE) Trydok ?_; (iterate 3 refine rq rfl rfl rfl rfl rfl ?_)
        refine rc rfl rfl rfl rfl rfl rfl good26 (cRun (startE n (goalS n x)).1 (startE n (goalS n x)).2.1 p m) (CoL.refl _) rfl rfl ?_; (iterate 3 refine rq rfl rfl rfl rfl rfl ?_); refine rm 3 rfl rfl rfl rfl rfl rfl ?_
        refine rs rfl rfl rfl rfl rfl ?_; refine rq rfl rfl rfl rfl rfl ?_; refine rg_nil ?_; show HW _ _ _ _ _; (iterate 2 refine hw_seq ?_); refine hw_region (E := TrydE) Trydok ?_; (iterate 2 refine rq rfl rfl rfl rfl rfl ?_)
        refine rg_nil ?_; show HW _ _ _ _ _; refine hw_cond _ rfl (fun r3 => ?_) (fun r3 => ?_)
        · skip
          have h3 := r3
          have h3 := of_decide_eq_false (not_t h3)
          try simp only [Int.toNat_natCast] at h3
          refine hw_seq ?_; refine hw_region (E := TrydE) Trydok ?_; (iterate 3 refine rq rfl rfl rfl rfl rfl ?_); refine rg_nil ?_; show HW _ _ _ _ _; refine hw_ret ?_; refine ⟨.inr rfl, ?_⟩
          have he : implE n p m x = (false, (chaseE FU (startE n (goalS n x)).1 (startE n (goalS n x)).2.1 p m).2.2) := (if_pos hbe).trans ((if_pos hu).trans ((if_pos hs0).trans (if_neg (by assumption))))
          exact ⟨_, _, _, _, rfl, (by (repeat' apply And.intro) <;> first | trivial | exact Nat.le_of_ble_eq_true rfl | rfl), rfl, (by (repeat' apply And.intro) <;> first | trivial | exact Nat.le_of_ble_eq_true rfl | rfl), by rw [he]; exact CoL.refl _⟩
        · skip
          have h3 := r3
          have h3 := of_decide_eq_true (not_f h3)
          try simp only [Int.toNat_natCast] at h3
          have hc0 : (chaseE FU (startE n (goalS n x)).1 (startE n (goalS n x)).2.1 p m).2.2 = 0 := by assumption
          refine hw_skip ?_; show HW _ _ _ _ _; refine hw_seq ?_; refine hw_region (E := TrydE) Trydok ?_; refine rq rfl rfl rfl rfl rfl ?_; refine rm 4 rfl rfl rfl rfl rfl rfl ?_; refine rq rfl rfl rfl rfl rfl ?_; refine rg_nil ?_
          show HW _ _ _ _ _; (iterate 2 refine hw_seq ?_); refine hw_region (E := TrydE) Trydok ?_; (iterate 3 refine rq rfl rfl rfl rfl rfl ?_); refine rg_nil ?_; show HW _ _ _ _ _; refine hw_block ?_
          refine hw_loopK (ι := Nat) ⟨[(14, some _), (15, some _), (69, some _)], [(3, some _)]⟩ ⟨⟨⟨_, rfl, CoR.refl _⟩, ⟨_, rfl, CoR.refl _⟩, ⟨_, rfl, CoR.refl _⟩, trivial⟩, ⟨⟨_, rfl, CoO.refl _⟩, trivial⟩⟩ (fun k => ⟨[(70, some (vI k))], [(4, some (.arr true 1 3 n.toNat (lf zC (stT n 0 (fullS 32) k))))]⟩) (fun k => k ≤ n.toNat) (fun k => n.toNat - k) (0) (Nat.zero_le _) ⟨⟨⟨_, rfl, (by first | exact CoR.refl _ | exact coi (by omega) | exact cob (by simp_all))⟩, trivial⟩, ⟨⟨_, rfl, (stT_zero rfl (fun _ => rfl))⟩, trivial⟩⟩ ?_
          rintro k hk
          refine hw_seq ?_; refine hw_region (E := TrydE) Trydok ?_; refine rq rfl rfl rfl rfl rfl ?_; refine rg_nil ?_; show HW _ _ _ _ _; refine hw_seq ?_; refine hw_cond _ rfl (fun r4 => ?_) (fun r4 => ?_)
          · skip
            have h4 := r4
            have h4 := of_decide_eq_true h4
            try simp only [Int.toNat_natCast] at h4
            refine hw_skip ?_; show HW _ _ _ _ _; refine hw_seq ?_; refine hw_block ?_; refine hw_seq ?_; refine hw_region (E := TrydE) Trydok ?_; (iterate 2 refine rq rfl rfl rfl rfl rfl ?_); refine rg_nil ?_; show HW _ _ _ _ _
            refine hw_region (E := TrydE) Trydok ?_; (iterate 4 refine rq rfl rfl rfl rfl rfl ?_); refine rs rfl rfl rfl rfl rfl ?_; refine rg_nil ?_; show HW _ _ _ _ _; refine hw_region (E := TrydE) Trydok ?_
            (iterate 2 refine rq rfl rfl rfl rfl rfl ?_); refine rg_nil ?_; refine ⟨k + 1, ?_, ?_, ?_⟩
            · show k + 1 ≤ _; omega
            · first | omega | (dsimp only; omega)
            · exact ⟨⟨⟨_, rfl, (by first | exact CoR.refl _ | exact coi (by omega) | exact cob (by simp_all))⟩, ⟨_, rfl, CoR.refl _⟩, ⟨_, rfl, CoR.refl _⟩, ⟨_, rfl, CoR.refl _⟩, trivial⟩, ⟨⟨_, rfl, (co_st0 (full32 (by omega)) rfl (by omega))⟩, ⟨_, rfl, CoO.refl _⟩, trivial⟩⟩
          · skip
            have h4 := r4
            have h4 := of_decide_eq_false h4
            try simp only [Int.toNat_natCast] at h4
            refine hw_exit ?_; show HW _ _ _ _ _; refine hw_seq ?_; refine hw_freeze 15 rfl rfl rfl ?_; refine hw_region (E := TrydE) Trydok ?_; (iterate 2 refine rq rfl rfl rfl rfl rfl ?_)
            refine rc rfl rfl rfl rfl rfl rfl good16 (cCont (chaseE FU (startE n (goalS n x)).1 (startE n (goalS n x)).2.1 p m).2.1.1 (chaseE FU (startE n (goalS n x)).1 (startE n (goalS n x)).2.1 p m).2.1.2 (firstZ n)) (⟨CoC.refl _, co_firstT hz1 (by omega), trivial⟩) rfl rfl ?_
            (iterate 2 refine rq rfl rfl rfl rfl rfl ?_); refine rg_nil ?_; show HW _ _ _ _ _; refine hw_ret ?_; refine ⟨.inr rfl, ?_⟩
            have he : implE n p m x = ((chaseE FU (startE n (goalS n x)).1 (startE n (goalS n x)).2.1 p m).2.1.2.any (fun r => decide (r = firstZ n)), 0) := (if_pos hbe).trans ((if_pos hu).trans ((if_pos hs0).trans (if_pos hc0)))
            exact ⟨_, _, _, _, rfl, (by (repeat' apply And.intro) <;> first | trivial | exact Nat.le_of_ble_eq_true rfl | rfl), rfl, (by (repeat' apply And.intro) <;> first | trivial | exact Nat.le_of_ble_eq_true rfl | rfl), by rw [he]; exact CoL.refl _⟩
end Go.Hx
end
section
namespace Go.Hx
open Go.Proofs
set_option maxRecDepth 100000
def sT : List Rw := [[0, 1, 5], [0, 7, 2]]
def fdX : List Fd := [⟨1, 2⟩]
theorem ex_start : startE 3 [3, 5] = (3, sT, 0) := by decide +kernel
theorem ex_runF : (chaseE FU 3 sT fdX []).2 = ((3, [[0, 1, 2], [0, 1, 5]]), 0) := by decide +kernel
theorem ex_runM : (chaseE FU 3 sT [] fdX).2 = ((3, [[0, 1, 2], [0, 1, 5], [0, 7, 2], [0, 7, 5]]), 0) := by decide +kernel
theorem ex_imp1 : implE 3 fdX [] ⟨1, 2⟩ = (true, 0) := by decide +kernel
theorem ex_imp2 : implE 3 fdX [] ⟨2, 1⟩ = (false, 0) := by decide +kernel
theorem cStartX : HPure Tryd.prog 19 [pI 3, pP (asl [3, 5])] (prOf [pT 3 sT, pI 0]) := by
  have h := cStart 3 [3, 5]
  rw [ex_start] at h
  exact h
theorem cRunX (n : Int) (l : List Rw) (p m : List Fd) (n' : Int) (l' : List Rw) (e : Int) (h : (chaseE FU n l p m).2 = ((n', l'), e)) : HPure Tryd.prog 26 [pT n l, pP (fdl p), pP (fdl m)] (prOf [pT n' l', pI e]) := by
  have h2 := cRun n l p m
  rw [h] at h2
  exact h2
theorem cImpX (n : Int) (p m : List Fd) (x : Fd) (b : Bool) (e : Int) (h : implE n p m x = (b, e)) : HPure Tryd.prog 28 [pI n, pP (fdl p), pP (fdl m), x.pc] (prOf [pB b, pI e]) := by
  have h2 := cImplT n p m x
  rw [h] at h2
  exact h2
theorem cSameX (n : Int) (l : List Rw) : HPure Tryd.prog 22 [pT n l, pT n l] (prOf [pB true]) := by
  have h := cSameT n n l l
  rw [decide_eq_true ⟨rfl, rfl⟩] at h
  exact h
theorem co_fd1 {x : Fd} {cl : Bool} {f : Nat → Nat → PV} (h0 : CoP (f 0 0) (x.c 0)) (h1 : CoP (f 0 1) (x.c 1)) : CoP (.sl 1 2 cl f) (fdl [x]) :=
  CoP.sl rfl (.inl rfl) (fun h => by cases h) fun i j hi hj => by
    obtain rfl : i = 0 := by omega
    rcases (by omega : j = 0 ∨ j = 1) with rfl | rfl
    · exact h0
    · exact h1
theorem co_fd0 {s : Nat} {f : Nat → Nat → PV} : CoP (.sl 0 s true f) (fdl []) := CoP.sl rfl (.inr rfl) (fun h => by cases h) fun i j hi _ => absurd hi (Nat.not_lt_zero i)
theorem co_z3 {a b c : Int} {cl : Bool} {f : Nat → Nat → PV} (h0 : CoP (f 0 0) (.raw (.int .i64 a))) (h1 : CoP (f 1 0) (.raw (.int .i64 b))) (h2 : CoP (f 2 0) (.raw (.int .i64 c))) : CoP (.sl 3 1 cl f) (zl [a, b, c]) :=
  CoP.sl rfl (.inl rfl) (fun h => by cases h) fun i j hi hj => by
    obtain rfl : j = 0 := by omega
    rcases (by omega : i = 0 ∨ i = 1 ∨ i = 2) with rfl | rfl | rfl
    · exact h0
    · exact h1
    · exact h2
theorem co_r2 {a b : Rw} {cl : Bool} {f : Nat → Nat → PV} (h0 : CoP (f 0 0) (zl a)) (h1 : CoP (f 1 0) (zl b)) : CoP (.sl 2 1 cl f) (rl [a, b]) :=
  CoP.sl rfl (.inl rfl) (fun h => by cases h) fun i j hi hj => by
    obtain rfl : j = 0 := by omega
    rcases (by omega : i = 0 ∨ i = 1) with rfl | rfl
    · exact h0
    · exact h1
theorem co_r4 {a b c d : Rw} {cl : Bool} {f : Nat → Nat → PV} (h0 : CoP (f 0 0) (zl a)) (h1 : CoP (f 1 0) (zl b)) (h2 : CoP (f 2 0) (zl c)) (h3 : CoP (f 3 0) (zl d)) : CoP (.sl 4 1 cl f) (rl [a, b, c, d]) :=
  CoP.sl rfl (.inl rfl) (fun h => by cases h) fun i j hi hj => by
    obtain rfl : j = 0 := by omega
    rcases (by omega : i = 0 ∨ i = 1 ∨ i = 2 ∨ i = 3) with rfl | rfl | rfl | rfl
    · exact h0
    · exact h1
    · exact h2
    · exact h3
end Go.Hx
end
section
namespace Go.Hx
open Go.Proofs
set_option maxRecDepth 100000
theorem good11 : goodFn Tryd.prog 11 := ⟨Tryd.f11, Tryd.func11, by kernel_rfl, by kernel_rfl⟩
theorem cAwake  : HPure Tryd.prog 11 [] (prOf [pB true]) := by
  refine hpure_of (nt := 98) Trydok Tryd.func11 rfl rfl (Nat.le_of_ble_eq_true rfl) ?_; refine hw_seq ?_; refine hw_region (E := TrydE) Trydok ?_; refine rq rfl rfl rfl rfl rfl ?_; refine rg_nil ?_; show HW _ _ _ _ _
  refine hw_seq ?_; refine hw_regionN [0] [1, 2, 3, 4, 5, 6, 7] rfl ?_; refine rn_reg (E := TrydE) Trydok ?_; refine rm 0 rfl rfl rfl rfl rfl rfl ?_; refine rg_nil ?_; refine rn_he ?_; refine he_freeze 14 rfl rfl rfl ?_
  refine he_done ?_; refine rn_reg (E := TrydE) (L1 := [1, 2, 3, 4, 5, 6, 7]) (L2 := []) Trydok ?_; refine rc rfl rfl rfl rfl rfl rfl good19 (cStartX) (⟨CoC.refl _, CoC.one (co_lit2 (CoP.refl _) (CoP.refl _)), trivial⟩) rfl rfl ?_
  (iterate 3 refine rq rfl rfl rfl rfl rfl ?_); refine rm 1 rfl rfl rfl rfl rfl rfl ?_; refine rs rfl rfl rfl rfl rfl ?_; refine rq rfl rfl rfl rfl rfl ?_; refine rg_nil ?_; refine rn_nil ?_; show HW _ _ _ _ _
  (iterate 2 refine hw_seq ?_); refine hw_regionN [0, 1, 2, 3, 4, 5] [6, 7, 8, 9, 10] rfl ?_; refine rn_reg (E := TrydE) Trydok ?_; (iterate 4 refine rq rfl rfl rfl rfl rfl ?_); refine rm 2 rfl rfl rfl rfl rfl rfl ?_
  refine rm 3 rfl rfl rfl rfl rfl rfl ?_; refine rg_nil ?_; refine rn_he ?_; refine he_freeze 22 rfl rfl rfl ?_; refine he_freeze 23 rfl rfl rfl ?_; refine he_done ?_
  refine rn_reg (E := TrydE) (L1 := [6]) (L2 := [7, 8, 9, 10]) Trydok ?_; refine rm 4 rfl rfl rfl rfl rfl rfl ?_; refine rg_nil ?_; refine rn_he ?_; refine he_freeze 24 rfl rfl rfl ?_; refine he_done ?_
  refine rn_reg (E := TrydE) (L1 := [7, 8, 9, 10]) (L2 := []) Trydok ?_; refine rq rfl rfl rfl rfl rfl ?_
  refine rc rfl rfl rfl rfl rfl rfl good22 (cSameX 3 sT) (⟨CoC.refl _, CoC.agg ⟨CoP.refl _, co_r2 (co_z3 (CoP.refl _) (CoP.refl _) (CoP.refl _)) (co_z3 (CoP.refl _) (CoP.refl _) (CoP.refl _)), trivial⟩, trivial⟩) rfl rfl ?_
  (iterate 2 refine rq rfl rfl rfl rfl rfl ?_); refine rg_nil ?_; refine rn_nil ?_; show HW _ _ _ _ _; refine hw_cond _ rfl (fun e => by cases e) (fun _ => ?_); refine hw_skip ?_; show HW _ _ _ _ _; refine hw_seq ?_
  refine hw_region (E := TrydE) Trydok ?_; refine rq rfl rfl rfl rfl rfl ?_; refine rm 5 rfl rfl rfl rfl rfl rfl ?_; refine rq rfl rfl rfl rfl rfl ?_; refine rm 6 rfl rfl rfl rfl rfl rfl ?_
  (iterate 2 refine rq rfl rfl rfl rfl rfl ?_); refine rg_nil ?_; refine hw_freeze 3 rfl rfl rfl ?_; refine hw_freeze 4 rfl rfl rfl ?_; show HW _ _ _ _ _; refine hw_seq ?_; refine hw_region (E := TrydE) Trydok ?_
  (iterate 2 refine rq rfl rfl rfl rfl rfl ?_); refine rc rfl rfl rfl rfl rfl rfl good26 (cRunX 3 sT fdX [] _ _ _ ex_runF) (⟨CoC.refl _, CoC.one (co_fd1 (CoP.refl _) (CoP.refl _)), CoC.one co_fd0, trivial⟩) rfl rfl ?_
  (iterate 3 refine rq rfl rfl rfl rfl rfl ?_); refine rm 7 rfl rfl rfl rfl rfl rfl ?_; refine rs rfl rfl rfl rfl rfl ?_; refine rq rfl rfl rfl rfl rfl ?_; refine rg_nil ?_; show HW _ _ _ _ _; refine hw_seq ?_
  refine hw_region (E := TrydE) Trydok ?_; (iterate 2 refine rq rfl rfl rfl rfl rfl ?_)
  refine rc rfl rfl rfl rfl rfl rfl good26 (cRunX 3 sT [] fdX _ _ _ ex_runM) (⟨CoC.refl _, CoC.one co_fd0, CoC.one (co_fd1 (CoP.refl _) (CoP.refl _)), trivial⟩) rfl rfl ?_; (iterate 3 refine rq rfl rfl rfl rfl rfl ?_)
  refine rm 8 rfl rfl rfl rfl rfl rfl ?_; refine rs rfl rfl rfl rfl rfl ?_; refine rq rfl rfl rfl rfl rfl ?_; refine rg_nil ?_; show HW _ _ _ _ _; refine hw_seq ?_; refine hw_region (E := TrydE) Trydok ?_
  (iterate 4 refine rq rfl rfl rfl rfl rfl ?_); refine rc rfl rfl rfl rfl rfl rfl good28 (cImpX 3 fdX [] ⟨1, 2⟩ _ _ ex_imp1) (⟨CoC.refl _, CoC.one (co_fd1 (CoP.refl _) (CoP.refl _)), CoC.one co_fd0, CoC.refl _, trivial⟩) rfl rfl ?_
  (iterate 5 refine rq rfl rfl rfl rfl rfl ?_); refine rg_nil ?_; show HW _ _ _ _ _; refine hw_seq ?_; refine hw_region (E := TrydE) Trydok ?_; (iterate 2 refine rq rfl rfl rfl rfl rfl ?_)
  refine rc rfl rfl rfl rfl rfl rfl good28 (cImpX 3 fdX [] ⟨2, 1⟩ _ _ ex_imp2) (⟨CoC.refl _, CoC.one (co_fd1 (CoP.refl _) (CoP.refl _)), CoC.one co_fd0, CoC.refl _, trivial⟩) rfl rfl ?_; (iterate 5 refine rq rfl rfl rfl rfl rfl ?_)
  refine rg_nil ?_; show HW _ _ _ _ _; refine hw_seq ?_
  refine hw_regionN [0, 1, 2, 3, 4, 5, 6, 7, 8, 9, 10, 11, 12, 13, 14, 15, 16, 17, 18, 19, 20, 21, 22, 23, 24] [25, 26, 27, 28, 29, 30, 31, 32, 33, 34, 35, 36, 37, 38, 39] rfl ?_; refine rn_reg (E := TrydE) Trydok ?_
  (iterate 23 refine rq rfl rfl rfl rfl rfl ?_); refine rm 9 rfl rfl rfl rfl rfl rfl ?_; refine rm 10 rfl rfl rfl rfl rfl rfl ?_; refine rg_nil ?_; refine rn_he ?_; refine he_freeze 82 rfl rfl rfl ?_
  refine he_freeze 83 rfl rfl rfl ?_; refine he_done ?_; refine rn_reg (E := TrydE) (L1 := [25]) (L2 := [26, 27, 28, 29, 30, 31, 32, 33, 34, 35, 36, 37, 38, 39]) Trydok ?_; refine rm 11 rfl rfl rfl rfl rfl rfl ?_; refine rg_nil ?_
  refine rn_he ?_; refine he_freeze 84 rfl rfl rfl ?_; refine he_done ?_; refine rn_reg (E := TrydE) (L1 := [26, 27, 28, 29, 30, 31, 32, 33, 34]) (L2 := [35, 36, 37, 38, 39]) Trydok ?_; refine rq rfl rfl rfl rfl rfl ?_
  refine rc rfl rfl rfl rfl rfl rfl good22 (cSameX 3 [[0, 1, 2], [0, 1, 5]]) (⟨CoC.refl _, CoC.agg ⟨CoP.refl _, co_r2 (co_z3 (CoP.refl _) (CoP.refl _) (CoP.refl _)) (co_z3 (CoP.refl _) (CoP.refl _) (CoP.refl _)), trivial⟩, trivial⟩) rfl rfl ?_
  (iterate 3 refine rq rfl rfl rfl rfl rfl ?_); refine rm 12 rfl rfl rfl rfl rfl rfl ?_; refine rm 13 rfl rfl rfl rfl rfl rfl ?_; refine rm 14 rfl rfl rfl rfl rfl rfl ?_; refine rm 15 rfl rfl rfl rfl rfl rfl ?_; refine rg_nil ?_
  refine rn_he ?_; refine he_freeze 90 rfl rfl rfl ?_; refine he_freeze 91 rfl rfl rfl ?_; refine he_freeze 92 rfl rfl rfl ?_; refine he_freeze 93 rfl rfl rfl ?_; refine he_done ?_
  refine rn_reg (E := TrydE) (L1 := [35]) (L2 := [36, 37, 38, 39]) Trydok ?_; refine rm 16 rfl rfl rfl rfl rfl rfl ?_; refine rg_nil ?_; refine rn_he ?_; refine he_freeze 94 rfl rfl rfl ?_; refine he_done ?_
  refine rn_reg (E := TrydE) (L1 := [36, 37, 38, 39]) (L2 := []) Trydok ?_; refine rq rfl rfl rfl rfl rfl ?_
  refine rc rfl rfl rfl rfl rfl rfl good22 (cSameX 3 [[0, 1, 2], [0, 1, 5], [0, 7, 2], [0, 7, 5]]) (⟨CoC.refl _, CoC.agg ⟨CoP.refl _, co_r4 (co_z3 (CoP.refl _) (CoP.refl _) (CoP.refl _)) (co_z3 (CoP.refl _) (CoP.refl _) (CoP.refl _)) (co_z3 (CoP.refl _) (CoP.refl _) (CoP.refl _)) (co_z3 (CoP.refl _) (CoP.refl _) (CoP.refl _)), trivial⟩, trivial⟩) rfl rfl ?_
  (iterate 2 refine rq rfl rfl rfl rfl rfl ?_); refine rg_nil ?_; refine rn_nil ?_; show HW _ _ _ _ _; refine hw_ret ?_; refine ⟨.inr rfl, ?_⟩
  exact ⟨_, _, _, _, rfl, (by (repeat' apply And.intro) <;> first | trivial | exact Nat.le_of_ble_eq_true rfl | rfl), rfl, (by (repeat' apply And.intro) <;> first | trivial | exact Nat.le_of_ble_eq_true rfl | rfl), CoL.refl _⟩
end Go.Hx
end
section
namespace Go.Hx
theorem start_tok (n : Int) (ps : List AS) : tok (startE n ps).1 (startE n ps).2.1 = true := by
  have h0 : tok 0 [] = true := by decide +kernel
  unfold startE
  split
  · exact h0
  · split
    · exact h0
    · split
      · refine tok_canon (by omega) (by omega) ?_ fun r hr => ?_
        · have := canon_len (stRows n ps)
          rw [stRows_len] at this
          show (canon (stRows n ps)).length ≤ 256
          omega
        · unfold stRows at hr
          rw [List.mem_map] at hr
          obtain ⟨i, hi, rfl⟩ := hr
          refine ⟨stR_len _ _ _, fun z hz => ?_⟩
          unfold stR at hz
          rw [List.mem_map] at hz
          obtain ⟨c, hc, rfl⟩ := hz
          unfold stV
          split
          · omega
          · have := (mulB (n := n) (i := i) (by omega) (by omega) (by have := List.mem_range.1 hi; omega)).1
            omega
      · exact h0
end Go.Hx
end
