/- A part of the proof: lemmas for the theorem of this claim, merged by a program of ours out of Ch23, X28, X29, Ch24, Cc1, Cc2. -/
import Derived.Test.YtididbpiikfaiaaDoorE34
set_option linter.all false
section
namespace Go.Hx
open Go.Proofs
theorem cRCopiedP (l : List Rw) (hl : ∀ i, i < l.length → (l.getD i default).length ≤ 17592186044416) (hl2 : l.length ≤ 5864062014805) : HPure Tryd.prog 52 [pR l] (prOf [pR l]) :=
  HFun.pure (args := [pR l]) (l := [.one (.ref 901 l.length)]) (cRCopied l hl hl2) rfl ⟨rfl, trivial⟩
theorem cRApplyOk (n : Int) (l : List Rw) (p m : List Fd) (s : St) (hck : ckE n l p m = 0) (h : okSt l p m s) :
    HPure Tryd.prog 34 [pT n l, pP (fdl p), pP (fdl m), s.pc] (prOf [pT (appE n l p m s).1 (appE n l p m s).2.1, pI (appE n l p m s).2.2]) := by
  obtain ⟨mu, i, a, b⟩ := s
  obtain ⟨ha, hb, h⟩ := h
  obtain ⟨hT, hbe, _⟩ := ckE_ok hck
  have ha : a < l.length := ha
  have hb : b < l.length := hb
  have hne : ¬ a = b := by
    rintro rfl
    rcases h with ⟨_, _, h⟩ | ⟨_, _, h⟩
    · rw [show stepF l (p.getD i default) a a = false from stepF_same] at h; cases h
    · rw [show stepM l (m.getD i default) a a = false from stepM_same ha] at h; cases h
  rcases h with ⟨h1, h2, _⟩ | ⟨h1, h2, _⟩
  · cases h1
    have h2 : i < p.length := h2
    have e := applyE_3 (mu := false) (i := (i : Int)) (a := (a : Int)) (b := (b : Int)) hT hbe (by
      unfold badS
      rintro (h | h | h | h | h | h | ⟨h, h3⟩ | ⟨h, h3⟩) <;> first | omega | cases h)
    simp only [Int.toNat_natCast] at e
    have hh := cRApplyF n l p m i a b
    rw [e] at hh
    exact hh
  · cases h1
    have h2 : i < m.length := h2
    have e := applyE_3 (mu := true) (i := (i : Int)) (a := (a : Int)) (b := (b : Int)) hT hbe (by
      unfold badS
      rintro (h | h | h | h | h | h | ⟨h, h3⟩ | ⟨h, h3⟩) <;> first | omega | cases h)
    simp only [Int.toNat_natCast] at e
    have hh := cRApplyM n l p m i a b
    rw [e] at hh
    exact hh
end Go.Hx
end
section
namespace Go.Hx
open Go.Proofs
set_option maxRecDepth 100000
theorem good25 : goodFn Tryd.prog 25 := ⟨Tryd.f25, Tryd.func25, by kernel_rfl, by kernel_rfl⟩
theorem cRSteps (F : Nat) (n : Int) (l : List Rw) (p m : List Fd) (hF : tok n l = true → muC l.flatten l < F) (hFb : F ≤ 4000000000) : HPure Tryd.prog 25 [pT n l, pP (fdl p), pP (fdl m)] (prOf [pP (stl (chaseE F n l p m).1), pT (chaseE F n l p m).2.1.1 (chaseE F n l p m).2.1.2, pI (chaseE F n l p m).2.2]) := by
  refine hpure_of (nt := 63) Trydok Tryd.func25 rfl rfl (Nat.le_of_ble_eq_true rfl) ?_; refine hw_seq ?_; refine hw_region (E := TrydE) Trydok ?_; refine rm 0 rfl rfl rfl rfl rfl rfl ?_; refine rq rfl rfl rfl rfl rfl ?_
  refine rm 1 rfl rfl rfl rfl rfl rfl ?_; refine rq rfl rfl rfl rfl rfl ?_; refine rg_nil ?_; show HW _ _ _ _ _; (iterate 2 refine hw_seq ?_); refine hw_region (E := TrydE) Trydok ?_; refine rq rfl rfl rfl rfl rfl ?_
  refine rc rfl rfl rfl rfl rfl rfl good15 (cRTValid n l) (CoL.refl _) rfl rfl ?_; refine rq rfl rfl rfl rfl rfl ?_; refine rg_nil ?_; show HW _ _ _ _ _; refine hw_cond _ rfl (fun r0 => ?_) (fun r0 => ?_)
  · skip
    have h0 := r0
    have h0 := not_t h0
    refine hw_seq ?_; refine hw_region (E := TrydE) Trydok ?_; (iterate 2 refine rq rfl rfl rfl rfl rfl ?_); refine rs rfl rfl rfl rfl rfl ?_; refine rq rfl rfl rfl rfl rfl ?_; refine rg_nil ?_; show HW _ _ _ _ _; refine hw_ret ?_
    refine ⟨.inr rfl, ?_⟩
    have hk1 : ckE n l p m = 1 := if_neg (by simp_all)
    have he := chaseE_0 (F := F) (n := n) (l := l) (p := p) (m := m) (by omega)
    exact ⟨_, _, _, _, rfl, (by (repeat' apply And.intro) <;> first | trivial | exact Nat.le_of_ble_eq_true rfl | rfl), rfl, (by (repeat' apply And.intro) <;> first | trivial | exact Nat.le_of_ble_eq_true rfl | rfl), by rw [he, hk1]; exact ⟨CoC.one (CoP.sl rfl (.inr rfl) (fun _ => rfl) (fun i j hi _ => absurd hi (Nat.not_lt_zero i))), CoC.agg ⟨CoP.refl _, co_nilZ, trivial⟩, CoC.refl _, trivial⟩⟩
  · skip
    have h0 := r0
    have h0 := not_f h0
    have hT : tok n l = true := by simp_all
    refine hw_skip ?_; show HW _ _ _ _ _; (iterate 2 refine hw_seq ?_); refine hw_region (E := TrydE) Trydok ?_; (iterate 4 refine rq rfl rfl rfl rfl rfl ?_)
    refine rc rfl rfl rfl rfl rfl rfl good51 (cRBValid n p m) (CoL.refl _) rfl rfl ?_; refine rq rfl rfl rfl rfl rfl ?_; refine rg_nil ?_; show HW _ _ _ _ _; refine hw_seq ?_; refine hw_region (E := TrydE) Trydok ?_
    (iterate 2 refine rq rfl rfl rfl rfl rfl ?_); refine rg_nil ?_; show HW _ _ _ _ _; refine hw_cond _ rfl (fun r1 => ?_) (fun r1 => ?_)
    · skip
      have h1 := r1
      have h1 := of_decide_eq_false (not_t h1)
      try simp only [Int.toNat_natCast] at h1
      refine hw_seq ?_; refine hw_region (E := TrydE) Trydok ?_; (iterate 3 refine rq rfl rfl rfl rfl rfl ?_); refine rs rfl rfl rfl rfl rfl ?_; refine rq rfl rfl rfl rfl rfl ?_; refine rg_nil ?_; show HW _ _ _ _ _; refine hw_ret ?_
      refine ⟨.inr rfl, ?_⟩
      have hk1 : ckE n l p m = bErr n p m := if_pos hT
      have he := chaseE_0 (F := F) (n := n) (l := l) (p := p) (m := m) (by rw [hk1]; assumption)
      exact ⟨_, _, _, _, rfl, (by (repeat' apply And.intro) <;> first | trivial | exact Nat.le_of_ble_eq_true rfl | rfl), rfl, (by (repeat' apply And.intro) <;> first | trivial | exact Nat.le_of_ble_eq_true rfl | rfl), by rw [he, hk1]; exact ⟨CoC.one (CoP.sl rfl (.inr rfl) (fun _ => rfl) (fun i j hi _ => absurd hi (Nat.not_lt_zero i))), CoC.agg ⟨CoP.refl _, co_nilZ, trivial⟩, CoC.refl _, trivial⟩⟩
    · skip
      have h1 := r1
      have h1 := of_decide_eq_true (not_f h1)
      try simp only [Int.toNat_natCast] at h1
      have hbe : bErr n p m = 0 := by assumption
      have hck : ckE n l p m = 0 := (if_pos hT).trans hbe
      obtain ⟨hn0, hn16, hpl, hpa, hml, _⟩ := bErr_ok hbe
      obtain ⟨_, _, hl256, hrow⟩ := tok_get hT
      have hbig : ∀ i, i < l.length → (l.getD i default).length ≤ 17592186044416 := fun i hi => by rw [hrow i hi]; omega
      refine hw_skip ?_; show HW _ _ _ _ _; refine hw_seq ?_; refine hw_draw (E := TrydE) Trydok Trydmixed [0, 1, 2, 3, 4, 5, 6, 7] ?_; (iterate 4 refine rq rfl rfl rfl rfl rfl ?_)
      refine rc rfl rfl rfl rfl rfl rfl good52 (cRCopiedP l hbig (by omega)) (CoL.refl _) rfl rfl ?_; refine rq rfl rfl rfl rfl rfl ?_; refine rm 2 rfl rfl rfl rfl rfl rfl ?_; refine rs rfl rfl rfl rfl rfl ?_; refine rg_nil ?_
      refine ⟨by kernel_rfl, ?_⟩; show HW _ _ _ _ _; refine hw_seq ?_; refine hw_region (E := TrydE) Trydok ?_; refine rq rfl rfl rfl rfl rfl ?_; refine rg_nil ?_
      refine hw_adopt 11 900 true 4 55 (lf St.c []) (by decide) rfl (CoP.sl rfl (.inr rfl) (fun h => h) (fun i j hi _ => absurd hi (Nat.not_lt_zero i))) (.inr rfl) rfl ?_; show HW _ _ _ _ _; refine hw_block ?_
      refine hw_loopK (ι := Nat × List Rw × List St) ⟨[(1, some _), (2, some _), (7, some _), (10, some _)], [(1, some _)]⟩ ⟨⟨⟨_, rfl, CoR.refl _⟩, ⟨_, rfl, CoR.refl _⟩, ⟨_, rfl, CoR.refl _⟩, ⟨_, rfl, CoR.refl _⟩, trivial⟩, ⟨⟨_, rfl, CoO.refl _⟩, trivial⟩⟩ (fun x => ⟨[(11, some (.v (.one (.ref 900 x.2.2.length))))], [(2, some (.box [.p (.raw (.int .i64 n)), .p (rl x.2.1)])), (900, some (.arr true 4 55 x.2.2.length (lf St.c x.2.2)))]⟩) (fun x => StI F n l p m x) (fun x => x.1) ((F, l, [])) (StI.start hT (hF hT)) ⟨⟨⟨_, rfl, (by first | exact CoR.refl _ | exact coi (by omega) | exact cob (by simp_all))⟩, trivial⟩, ⟨⟨_, rfl, CoO.refl _⟩, ⟨_, rfl, CoO.refl _⟩, trivial⟩⟩ ?_
      rintro x hX
      have hXu := hX.u
      have hXb := hX.b
      refine hw_block ?_; refine hw_seq ?_; refine hw_region (E := TrydE) Trydok ?_; (iterate 3 refine rq rfl rfl rfl rfl rfl ?_)
      refine rc rfl rfl rfl rfl rfl rfl good53 ((nextK_eq (p := p) (m := m) hX.t ▸ cRNext n x.2.1 p m hX.t hpl hml)) (CoL.refl _) rfl rfl ?_; (iterate 3 refine rq rfl rfl rfl rfl rfl ?_); refine rm 3 rfl rfl rfl rfl rfl rfl ?_
      refine rs rfl rfl rfl rfl rfl ?_; refine rq rfl rfl rfl rfl rfl ?_; refine rg_nil ?_; show HW _ _ _ _ _; (iterate 2 refine hw_seq ?_); refine hw_region (E := TrydE) Trydok ?_; (iterate 2 refine rq rfl rfl rfl rfl rfl ?_)
      refine rg_nil ?_; show HW _ _ _ _ _; refine hw_cond _ rfl (fun r2 => ?_) (fun r2 => ?_)
      · skip
        have h2 := r2
        have h2 := not_t h2
        have hS := none_of (by simpa [nextK_eq hX.t] using h2)
        refine hw_seq ?_; refine hw_draw (E := TrydE) Trydok Trydmixed [0, 1, 2, 3, 4] ?_; (iterate 3 refine rq rfl rfl rfl rfl rfl ?_); refine rs rfl rfl rfl rfl rfl ?_; refine rq rfl rfl rfl rfl rfl ?_; refine rg_nil ?_
        refine ⟨by kernel_rfl, ?_⟩; refine hw_freeze 6 rfl rfl rfl ?_; show HW _ _ _ _ _; refine hw_ret ?_; refine ⟨.inr rfl, ?_⟩
        have he := (chaseE_1 hck).trans (hX.fin hS)
        exact ⟨_, _, _, _, rfl, (by (repeat' apply And.intro) <;> first | trivial | exact Nat.le_of_ble_eq_true rfl | rfl), rfl, (by (repeat' apply And.intro) <;> first | trivial | exact Nat.le_of_ble_eq_true rfl | rfl), by rw [he]; exact CoL.refl _⟩
      · skip
        have h2 := r2
        have h2 := not_f h2
        have hS := some_of (false, 0, 0, 0) (by simpa [nextK_eq hX.t] using h2)
        refine hw_skip ?_; show HW _ _ _ _ _; refine hw_seq ?_; refine hw_region (E := TrydE) Trydok ?_; (iterate 4 refine rq rfl rfl rfl rfl rfl ?_)
        refine rc rfl rfl rfl rfl rfl rfl good34 (cRApplyOk n x.2.1 p m ((nextE x.2.1 p m).getD (false, 0, 0, 0)) ((if_pos hX.t).trans hbe) (next_ok hS)) (CoL.refl _) rfl rfl ?_; (iterate 3 refine rq rfl rfl rfl rfl rfl ?_)
        refine rm 4 rfl rfl rfl rfl rfl rfl ?_; refine rs rfl rfl rfl rfl rfl ?_; refine rq rfl rfl rfl rfl rfl ?_; refine rg_nil ?_; show HW _ _ _ _ _; (iterate 2 refine hw_seq ?_); refine hw_region (E := TrydE) Trydok ?_
        (iterate 2 refine rq rfl rfl rfl rfl rfl ?_); refine rg_nil ?_; show HW _ _ _ _ _; refine hw_cond _ rfl (fun r3 => ?_) (fun r3 => ?_)
        · skip
          have h3 := r3
          have h3 := of_decide_eq_false (not_t h3)
          try simp only [Int.toNat_natCast] at h3
          refine hw_seq ?_; refine hw_region (E := TrydE) Trydok ?_; (iterate 3 refine rq rfl rfl rfl rfl rfl ?_); refine rs rfl rfl rfl rfl rfl ?_; refine rq rfl rfl rfl rfl rfl ?_; refine rg_nil ?_; show HW _ _ _ _ _
          refine hw_ret ?_; refine ⟨.inr rfl, ?_⟩
          have he := (chaseE_1 hck).trans (hX.err hS (by assumption))
          exact ⟨_, _, _, _, rfl, (by (repeat' apply And.intro) <;> first | trivial | exact Nat.le_of_ble_eq_true rfl | rfl), rfl, (by (repeat' apply And.intro) <;> first | trivial | exact Nat.le_of_ble_eq_true rfl | rfl), by rw [he]; exact ⟨CoC.one (CoP.sl rfl (.inr rfl) (fun _ => rfl) (fun i j hi _ => absurd hi (Nat.not_lt_zero i))), CoC.agg ⟨CoP.refl _, co_nilZ, trivial⟩, CoC.refl _, trivial⟩⟩
        · skip
          have h3 := r3
          have h3 := of_decide_eq_true (not_f h3)
          try simp only [Int.toNat_natCast] at h3
          have hnx := hX.next hpa hS (by assumption)
          refine hw_skip ?_; show HW _ _ _ _ _; refine hw_draw (E := TrydE) Trydok Trydmixed [0, 1, 2, 3, 4, 5, 6] ?_; (iterate 2 refine rq rfl rfl rfl rfl rfl ?_); refine rm 5 rfl rfl rfl rfl rfl rfl ?_
          refine ra 6 true rfl rfl rfl rfl rfl rfl ?_; (iterate 2 refine rq rfl rfl rfl rfl rfl ?_); refine rs rfl rfl rfl rfl rfl ?_; refine rg_nil ?_; refine ⟨by kernel_rfl, ?_⟩
          refine ⟨(x.1 - 1, (appE n x.2.1 p m ((nextE x.2.1 p m).getD (false, 0, 0, 0))).2.1, x.2.2 ++ [((nextE x.2.1 p m).getD (false, 0, 0, 0))]), ?_, ?_, ?_⟩
          · exact hnx.2
          · show x.1 - 1 < x.1
            omega
          · exact ⟨⟨⟨_, rfl, (ref_app rfl)⟩, ⟨_, rfl, CoR.refl _⟩, ⟨_, rfl, CoR.refl _⟩, ⟨_, rfl, CoR.refl _⟩, ⟨_, rfl, CoR.refl _⟩, trivial⟩, ⟨⟨_, rfl, ⟨CoP.of_eq (by rw [hnx.1]), CoH.refl _, trivial⟩⟩, ⟨_, rfl, (arr_app rfl (fun j hj => by match j, hj with | 0, _ => exact CoP.refl _ | 1, _ => exact CoP.refl _ | 2, _ => exact CoP.refl _ | 3, _ => exact CoP.refl _) rfl)⟩, ⟨_, rfl, CoO.refl _⟩, trivial⟩⟩
end Go.Hx
end
section
namespace Go.Hx
open Go.Proofs
set_option maxRecDepth 100000
theorem good55 : goodFn Tryd.prog 55 := ⟨Tryd.f55, Tryd.func55, by kernel_rfl, by kernel_rfl⟩
theorem cRRun (n : Int) (l : List Rw) (p m : List Fd) : HPure Tryd.prog 55 [pT n l, pP (fdl p), pP (fdl m)] (prOf [pT (chaseE FU n l p m).2.1.1 (chaseE FU n l p m).2.1.2, pI (chaseE FU n l p m).2.2]) := by
  refine hpure_of (nt := 21) Trydok Tryd.func55 rfl rfl (Nat.le_of_ble_eq_true rfl) ?_; refine hw_seq ?_; refine hw_region (E := TrydE) Trydok ?_; refine rm 0 rfl rfl rfl rfl rfl rfl ?_; refine rm 1 rfl rfl rfl rfl rfl rfl ?_
  refine rq rfl rfl rfl rfl rfl ?_; refine rg_nil ?_; show HW _ _ _ _ _; refine hw_seq ?_; refine hw_region (E := TrydE) Trydok ?_; (iterate 3 refine rq rfl rfl rfl rfl rfl ?_)
  refine rc rfl rfl rfl rfl rfl rfl good25 (cRSteps FU n l p m (fun h => mu_all h) (by decide)) (CoL.refl _) rfl rfl ?_; (iterate 4 refine rq rfl rfl rfl rfl rfl ?_); refine rm 2 rfl rfl rfl rfl rfl rfl ?_
  refine rq rfl rfl rfl rfl rfl ?_; refine rs rfl rfl rfl rfl rfl ?_; refine rq rfl rfl rfl rfl rfl ?_; refine rg_nil ?_; show HW _ _ _ _ _; refine hw_seq ?_; refine hw_region (E := TrydE) Trydok ?_
  (iterate 2 refine rq rfl rfl rfl rfl rfl ?_); refine rs rfl rfl rfl rfl rfl ?_; refine rq rfl rfl rfl rfl rfl ?_; refine rg_nil ?_; show HW _ _ _ _ _; refine hw_ret ?_; refine ⟨.inr rfl, ?_⟩
  exact ⟨_, _, _, _, rfl, (by (repeat' apply And.intro) <;> first | trivial | exact Nat.le_of_ble_eq_true rfl | rfl), rfl, (by (repeat' apply And.intro) <;> first | trivial | exact Nat.le_of_ble_eq_true rfl | rfl), CoL.refl _⟩
end Go.Hx
end
section
namespace Go.Hx
theorem co_g3 {n : Int} {a b : AS} : CoP (.raw (.int .u32 (bitV .or .u32 (asI a) (bitV .andNot .u32 (asI (fullI n)) (asI b))))) (asC (a ||| (fullI n &&& ~~~b))) := CoP.of_eq (by rw [bNot, bOr]; rfl)
theorem inU_sub {n : Int} (h0 : 0 ≤ n) (h1 : n ≤ 16) {x : Fd} : inU n x = true ↔ sub (x.lhs ||| x.rhs) (fullI n) := by
  rw [p_shr h0 h1]
  unfold inU
  rw [decide_eq_true_iff]
end Go.Hx
end
section
namespace Go.Hx
def AgE (E : Int → Int → Prop) (a b : Rw) (s : AS) : Prop := ∀ i : Nat, i < a.length → hasI s (i : Int) = true → E (a.getD i default) (b.getD i default)
structure Mdl (N : Nat) (p m : List Fd) (E : Int → Int → Prop) (R : Rw → Prop) : Prop where
  refl : ∀ x, E x x
  symm : ∀ {x y}, E x y → E y x
  trans : ∀ {x y z}, E x y → E y z → E x z
  len : ∀ {r}, R r → r.length = N
  cong : ∀ {r r' : Rw}, R r → r'.length = r.length → (∀ i, i < r.length → E (r.getD i default) (r'.getD i default)) → R r'
  fd : ∀ {x}, x ∈ p → ∀ {a b}, R a → R b → AgE E a b x.lhs → AgE E a b x.rhs
  mv : ∀ {x}, x ∈ m → ∀ {a b}, R a → R b → AgE E a b x.lhs → R (mixZ a b (x.lhs ||| x.rhs))
def LE (N : Nat) (p m : List Fd) (l : List Rw) (x y : Int) : Prop := ∀ E R, Mdl N p m E R → (∀ r, r ∈ l → R r) → E x y
def LR (N : Nat) (p m : List Fd) (l : List Rw) (r : Rw) : Prop := ∀ E R, Mdl N p m E R → (∀ r, r ∈ l → R r) → R r
theorem mdl_all (N : Nat) (p m : List Fd) : Mdl N p m (fun _ _ => True) (fun r => r.length = N) :=
  ⟨fun _ => trivial, fun _ => trivial, fun _ _ => trivial, fun h => h, fun h e _ => e.trans h, fun _ _ _ _ _ _ _ _ _ => trivial, fun _ a b _ hb _ => (mixZ_len _ _ _).trans hb⟩
theorem least {N : Nat} {p m : List Fd} {l : List Rw} (hl : ∀ r, r ∈ l → r.length = N) : Mdl N p m (LE N p m l) (LR N p m l) where
  refl x := fun E R h _ => h.refl x
  symm h := fun E R k kl => k.symm (h E R k kl)
  trans h h2 := fun E R k kl => k.trans (h E R k kl) (h2 E R k kl)
  len h := h _ _ (mdl_all N p m) hl
  cong h e h2 := fun E R k kl => k.cong (h E R k kl) e fun i hi => h2 i hi E R k kl
  fd hx _ _ ha hb hl := fun i hi hs E R k kl => k.fd hx (ha E R k kl) (hb E R k kl) (fun j hj hh => hl j hj hh E R k kl) i hi hs
  mv hx _ _ ha hb hl := fun E R k kl => k.mv hx (ha E R k kl) (hb E R k kl) fun j hj hh => hl j hj hh E R k kl
structure Ch (N : Nat) (p m : List Fd) (l0 l : List Rw) (σ : Int → Int) : Prop where
  rows : ∀ r, r ∈ l → LR N p m l0 r
  sym : ∀ s, LE N p m l0 s (σ s)
  img : ∀ r, r ∈ l0 → r.map σ ∈ l
  fix : ∀ r, r ∈ l → ∀ z, z ∈ r → σ z = z
  le : ∀ s, σ s ≤ s
section
variable {N : Nat} {p m : List Fd} {l0 l l' : List Rw} {σ σ' : Int → Int} {n : Int}
theorem Ch.start : Ch N p m l0 l0 id := ⟨fun r hr E R _ hl => hl r hr, fun s E R k _ => k.refl s, fun r hr => by rw [List.map_id]; exact hr, fun _ _ _ _ => rfl, fun s => Int.le_refl s⟩
theorem Ch.congr (h : Ch N p m l0 l σ) (e : ∀ r, r ∈ l' ↔ r ∈ l) : Ch N p m l0 l' σ :=
  ⟨fun r hr => h.rows r ((e r).1 hr), h.sym, fun r hr => (e _).2 (h.img r hr), fun r hr => h.fix r ((e r).1 hr), h.le⟩
def subI (hi lo z : Int) : Int := if z = hi then lo else z
theorem getD_map {f : Int → Int} {r : Rw} {i : Nat} (h : i < r.length) : (r.map f).getD i default = f (r.getD i default) := by
  rw [List.getD_eq_getElem?_getD, List.getElem?_map, List.getElem?_eq_getElem h, List.getD_eq_getElem?_getD, List.getElem?_eq_getElem h]
  rfl
theorem Ch.sub (hl0 : ∀ r, r ∈ l0 → r.length = N) (h : Ch N p m l0 l σ) {hi lo : Int} (hE : LE N p m l0 hi lo) (hle : lo ≤ hi) (hin : ∃ r, r ∈ l ∧ lo ∈ r) : Ch N p m l0 (l.map fun r => r.map (subI hi lo)) (fun s => subI hi lo (σ s)) := by
  have hm := least (p := p) (m := m) hl0
  have hs : ∀ z, LE N p m l0 z (subI hi lo z) := fun z => by
    unfold subI
    split
    · rename_i e; rw [e]; exact hE
    · exact hm.refl z
  refine ⟨fun r hr => ?_, fun s => hm.trans (h.sym s) (hs _), fun r hr => ?_, fun r hr z hz => ?_, fun s => ?_⟩
  · obtain ⟨r0, h0, rfl⟩ := List.mem_map.1 hr
    exact hm.cong (h.rows r0 h0) (by simp) fun i hi => by rw [getD_map hi]; exact hs _
  · refine List.mem_map.2 ⟨_, h.img r hr, ?_⟩
    rw [List.map_map]
    rfl
  · obtain ⟨r0, h0, rfl⟩ := List.mem_map.1 hr
    obtain ⟨y, hy, rfl⟩ := List.mem_map.1 hz
    obtain ⟨r1, h1, h2⟩ := hin
    have e1 := h.fix r0 h0 y hy
    have e2 := h.fix r1 h1 lo h2
    by_cases e : y = hi
    · have e3 : subI hi lo y = lo := if_pos e
      show subI hi lo (σ (subI hi lo y)) = subI hi lo y
      rw [e3, e2]
      unfold subI
      split <;> rfl
    · have e3 : subI hi lo y = y := if_neg e
      show subI hi lo (σ (subI hi lo y)) = subI hi lo y
      rw [e3, e1, e3]
  · have h1 := h.le s
    have h2 : subI hi lo (σ s) ≤ σ s := by
      unfold subI
      split <;> omega
    exact Int.le_trans h2 h1
theorem rowsOf_eqM {M : Nat → Nat → Int} {a b j : Nat} : rowsOf l (eqM M a b j) = (rowsOf l M).map fun r => r.map (subI (hiI (M a j) (M b j)) (loI (M a j) (M b j))) := by
  unfold rowsOf
  rw [List.map_map]
  refine List.map_congr_left fun i _ => ?_
  show _ = List.map _ (List.map _ _)
  rw [List.map_map]
  rfl
theorem inRows {M : Nat → Nat → Int} {a j : Nat} (ha : a < l.length) (hj : j < (l.getD a default).length) : ∃ r, r ∈ rowsOf l M ∧ M a j ∈ r :=
  inV_rows.2 ⟨a, j, ha, hj, rfl⟩
theorem Ch.eqMs (hl0 : ∀ r, r ∈ l0 → r.length = N) {a b : Nat} (ha : a < l.length) (hb : b < l.length) : ∀ {js : List Nat} {M : Nat → Nat → Int} {σ : Int → Int}, Ch N p m l0 (rowsOf l M) σ → (∀ j, j ∈ js → j < (l.getD a default).length ∧ j < (l.getD b default).length ∧ LE N p m l0 (M a j) (M b j)) →
    ∃ σ', Ch N p m l0 (rowsOf l (eqMs M a b js)) σ'
  | [], M, σ, h, _ => ⟨σ, h⟩
  | j :: js, M, σ, h, hj => by
    obtain ⟨h1, h2, h3⟩ := hj j (by simp)
    have hm := least (p := p) (m := m) hl0
    have hlo : loI (M a j) (M b j) ≤ hiI (M a j) (M b j) := by unfold loI hiI; split <;> split <;> omega
    have hE : LE N p m l0 (hiI (M a j) (M b j)) (loI (M a j) (M b j)) := by
      rcases hi_or (M a j) (M b j) with e | e <;> rcases lo_or (M a j) (M b j) with f | f <;> rw [e, f]
      · exact hm.refl _
      · exact h3
      · exact hm.symm h3
      · exact hm.refl _
    have hin : ∃ r, r ∈ rowsOf l M ∧ loI (M a j) (M b j) ∈ r := by
      rcases lo_or (M a j) (M b j) with f | f <;> rw [f]
      · exact inRows ha h1
      · exact inRows hb h2
    have hq := h.sub hl0 hE hlo hin
    rw [← rowsOf_eqM] at hq
    have hs : ∀ z, LE N p m l0 z (if z = hiI (M a j) (M b j) then loI (M a j) (M b j) else z) := fun z => by
      split
      · rename_i e; rw [e]; exact hE
      · exact hm.refl z
    exact Ch.eqMs hl0 ha hb (js := js) hq fun k hk => by
      obtain ⟨h4, h5, h6⟩ := hj k (by simp [hk])
      exact ⟨h4, h5, hm.trans (hm.symm (hs (M a k))) (hm.trans h6 (hs (M b k)))⟩
theorem rowsOf_self : rowsOf l (matOf l) = l := by
  refine list_eq (rowsOf_len _ _) fun i hi => ?_
  rw [rowsOf_len] at hi
  rw [rowsOf_at hi]
  refine list_eq (by simp) fun k hk => ?_
  simp only [List.length_map, List.length_range] at hk
  rw [List.getD_eq_getElem?_getD, List.getElem?_map, List.getElem?_range hk]
  rfl
theorem agr_E (hl0 : ∀ r, r ∈ l0 → r.length = N) {a b : Rw} {s : AS} (h : agrZ a b s = true) : AgE (LE N p m l0) a b s := fun i hi hs => by
  rw [of_decide_eq_true h i hi hs]
  exact (least hl0).refl _
theorem mem_getD {α : Type} [Inhabited α] {l : List α} {i : Nat} (h : i < l.length) : l.getD i default ∈ l := by
  rw [List.getD_eq_getElem?_getD, List.getElem?_eq_getElem h]
  exact List.getElem_mem h
theorem mem_mixZ {a b : Rw} {s : AS} (hl : a.length = b.length) {z : Int} (hz : z ∈ mixZ a b s) : z ∈ a ∨ z ∈ b := by
  unfold mixZ at hz
  rw [List.mem_map] at hz
  obtain ⟨i, hi, rfl⟩ := hz
  have hi := List.mem_range.1 hi
  split
  · exact .inl (mem_getD (by omega))
  · exact .inr (mem_getD hi)
def okIx (l : List Rw) (p m : List Fd) (s : St) : Prop := s.2.2.1 < l.length ∧ s.2.2.2 < l.length ∧ (s.1 = false → s.2.1 < p.length) ∧ (s.1 = true → s.2.1 < m.length)
theorem Ch.app (hl0 : ∀ r, r ∈ l0 → r.length = n.toNat) (hT : tok n l = true) (hp : p.all (inU n) = true) (h : Ch n.toNat p m l0 l σ) {s : St} (hs : okIx l p m s) (he : (appE n l p m s).2.2 = 0) :
    (appE n l p m s).1 = n ∧ ∃ σ', Ch n.toNat p m l0 (appE n l p m s).2.1 σ' := by
  obtain ⟨mu, i, a, b⟩ := s
  obtain ⟨ha, hb, hf, hv⟩ := hs
  obtain ⟨h0, h1, h2, h3⟩ := tok_get hT
  have ha : a < l.length := ha
  have hb : b < l.length := hb
  have hra := h3 a ha
  have hrb := h3 b hb
  cases mu with
  | false =>
    have hi : i < p.length := hf rfl
    have e0 : appE n l p m (false, i, a, b) = fdE n l a b (p.getD i default) := rfl
    rw [e0] at he ⊢
    by_cases hg : agrZ (l.getD a default) (l.getD b default) (p.getD i default).lhs = true
    · have e1 : fdE n l a b (p.getD i default) = (n, canon (rowsOf l (Go.Hx.eqMs (matOf l) a b (membs (p.getD i default).rhs))), 0) := if_pos hg
      rw [e1]
      refine ⟨rfl, ?_⟩
      have hu : inU n (p.getD i default) = true := List.all_eq_true.1 hp _ (mem_getD hi)
      have hm := least (p := p) (m := m) hl0
      have hR := hm.fd (mem_getD hi) (h.rows _ (mem_getD ha)) (h.rows _ (mem_getD hb)) (agr_E hl0 hg)
      obtain ⟨σ', hσ⟩ := Ch.eqMs (p := p) (m := m) hl0 ha hb (js := membs (p.getD i default).rhs) (M := matOf l) (σ := σ) (by rw [rowsOf_self]; exact h) fun j hj => by
        have h4 := memb_in h0 h1 hu hj
        have h5 := mem_membs.1 hj
        refine ⟨Nat.lt_of_lt_of_eq h4 hra.symm, Nat.lt_of_lt_of_eq h4 hrb.symm, hR j (Nat.lt_of_lt_of_eq h4 hra.symm) (by rw [hasI_nat h5.1]; exact h5.2)⟩
      exact ⟨σ', hσ.congr fun r => mem_canon⟩
    · have e1 : fdE n l a b (p.getD i default) = (0, [], 1) := if_neg hg
      rw [e1] at he
      exact absurd he (by decide)
  | true =>
    have hi : i < m.length := hv rfl
    have e0 : appE n l p m (true, i, a, b) = mvE n l a b (m.getD i default) := rfl
    rw [e0] at he ⊢
    by_cases hg : agrZ (l.getD a default) (l.getD b default) (m.getD i default).lhs = true
    · have e1 : mvE n l a b (m.getD i default) = addE n l (mixZ (l.getD a default) (l.getD b default) ((m.getD i default).lhs ||| (m.getD i default).rhs)) := if_pos hg
      rw [e1] at he ⊢
      by_cases hbig : 256 < (canon (l ++ [mixZ (l.getD a default) (l.getD b default) ((m.getD i default).lhs ||| (m.getD i default).rhs)])).length
      · have e2 : addE n l (mixZ (l.getD a default) (l.getD b default) ((m.getD i default).lhs ||| (m.getD i default).rhs)) = (0, [], 3) := if_pos hbig
        rw [e2] at he
        exact absurd he (by decide)
      · have e2 : addE n l (mixZ (l.getD a default) (l.getD b default) ((m.getD i default).lhs ||| (m.getD i default).rhs)) = (n, canon (l ++ [mixZ (l.getD a default) (l.getD b default) ((m.getD i default).lhs ||| (m.getD i default).rhs)]), 0) := if_neg hbig
        rw [e2]
        refine ⟨rfl, σ, ?_⟩
        have hm := least (p := p) (m := m) hl0
        have hR := hm.mv (mem_getD hi) (h.rows _ (mem_getD ha)) (h.rows _ (mem_getD hb)) (agr_E hl0 hg)
        refine ⟨fun r hr => ?_, h.sym, fun r hr => mem_canon.2 (List.mem_append_left _ (h.img r hr)), fun r hr z hz => ?_, h.le⟩
        · rcases List.mem_append.1 (mem_canon.1 hr) with h4 | h4
          · exact h.rows r h4
          · rw [List.mem_singleton.1 h4]; exact hR
        · rcases List.mem_append.1 (mem_canon.1 hr) with h4 | h4
          · exact h.fix r h4 z hz
          · rw [List.mem_singleton.1 h4] at hz
            rcases mem_mixZ (by omega) hz with h5 | h5
            · exact h.fix _ (mem_getD ha) z h5
            · exact h.fix _ (mem_getD hb) z h5
    · have e1 : mvE n l a b (m.getD i default) = (0, [], 1) := if_neg hg
      rw [e1] at he
      exact absurd he (by decide)
theorem firstF_non {P : Nat → Nat → Nat → Bool} {I L : Nat} (h : firstF P I L = none) {i a b : Nat} (hi : i < I) (ha : a < L) (hb : b < L) : P i a b = false := by
  unfold firstF at h
  rw [List.findSome?_eq_none_iff] at h
  have h1 := h i (List.mem_range.2 hi)
  rw [List.findSome?_eq_none_iff] at h1
  have h2 := h1 a (List.mem_range.2 ha)
  rw [Option.map_eq_none_iff, List.find?_eq_none] at h2
  exact Bool.eq_false_iff.2 (h2 b (List.mem_range.2 hb))
theorem nextE_non (h : nextE l p m = none) : (∀ i, i < p.length → ∀ a, a < l.length → ∀ b, b < l.length → stepF l (p.getD i default) a b = false) ∧ ∀ i, i < m.length → ∀ a, a < l.length → ∀ b, b < l.length → stepM l (m.getD i default) a b = false := by
  unfold nextE at h
  split at h
  · cases h
  · rename_i e
    rw [Option.map_eq_none_iff] at h
    exact ⟨fun i hi a ha b hb => firstF_non (P := fun i a b => stepF l (p.getD i default) a b) e hi ha hb, fun i hi a ha b hb => firstF_non (P := fun i a b => stepM l (m.getD i default) a b) h hi ha hb⟩
theorem mem_at {α : Type} [Inhabited α] {l : List α} {x : α} (h : x ∈ l) : ∃ i, i < l.length ∧ l.getD i default = x := by
  obtain ⟨i, hi, rfl⟩ := List.getElem_of_mem h
  exact ⟨i, hi, by rw [List.getD_eq_getElem?_getD, List.getElem?_eq_getElem hi]; rfl⟩
theorem map_mixZ {f : Int → Int} {a b : Rw} {s : AS} (hl : a.length = b.length) : mixZ (a.map f) (b.map f) s = (mixZ a b s).map f := by
  unfold mixZ
  rw [List.map_map, List.length_map]
  refine List.map_congr_left fun i hi => ?_
  have hi := List.mem_range.1 hi
  show _ = f (if hasI s (i : Int) = true then a.getD i default else b.getD i default)
  split
  · rw [getD_map (by omega)]
  · rw [getD_map hi]
theorem Ch.mdl (hT : tok n l = true) (hn : nextE l p m = none) (σ : Int → Int) : Mdl n.toNat p m (fun x y => σ x = σ y) (fun r => r.length = n.toNat ∧ r.map σ ∈ l) := by
  obtain ⟨hF, hM⟩ := nextE_non hn
  refine ⟨fun _ => rfl, fun h => h.symm, fun h k => h.trans k, fun h => h.1, fun {r r'} h e h2 => ⟨e.trans h.1, ?_⟩, fun {x} hx {a b} ha hb hl i hi hs => ?_, fun {x} hx {a b} ha hb hl => ⟨(mixZ_len _ _ _).trans hb.1, ?_⟩⟩
  · have : r'.map σ = r.map σ := by
      refine list_eq (by simp [e]) fun i hi => ?_
      rw [List.length_map] at hi
      rw [getD_map hi, getD_map (by omega)]
      exact (h2 i (by omega)).symm
    rw [this]; exact h.2
  · obtain ⟨k, hk, rfl⟩ := mem_at hx
    obtain ⟨ia, hia, ea⟩ := mem_at ha.2
    obtain ⟨ib, hib, eb⟩ := mem_at hb.2
    have h1 := hF k hk ia hia ib hib
    unfold stepF at h1
    rw [ea, eb, agrZ_t (fun j hj hs => by rw [List.length_map] at hj; rw [getD_map hj, getD_map (by rw [hb.1, ← ha.1]; exact hj)]; exact hl j hj hs), Bool.true_and, Bool.not_eq_false'] at h1
    have h2 := of_decide_eq_true h1 i (by rw [List.length_map]; exact hi) hs
    rw [getD_map hi, getD_map (by rw [hb.1, ← ha.1]; exact hi)] at h2
    exact h2
  · obtain ⟨k, hk, rfl⟩ := mem_at hx
    obtain ⟨ia, hia, ea⟩ := mem_at ha.2
    obtain ⟨ib, hib, eb⟩ := mem_at hb.2
    have h1 := hM k hk ia hia ib hib
    unfold stepM at h1
    rw [ea, eb, agrZ_t (fun j hj hs => by rw [List.length_map] at hj; rw [getD_map hj, getD_map (by rw [hb.1, ← ha.1]; exact hj)]; exact hl j hj hs), Bool.true_and, Bool.not_eq_false'] at h1
    obtain ⟨r, hr, e⟩ := List.any_eq_true.1 h1
    rw [← map_mixZ (by rw [ha.1, hb.1]), ← of_decide_eq_true e]
    exact hr
theorem Ch.has (h : Ch n.toNat p m l0 l σ) (hT : tok n l = true) (hl0 : ∀ r, r ∈ l0 → r.length = n.toNat) (hn : nextE l p m = none) : (∀ x y, LE n.toNat p m l0 x y → σ x = σ y) ∧ ∀ r, LR n.toNat p m l0 r → r.map σ ∈ l := by
  have hm := Ch.mdl (p := p) (m := m) hT hn σ
  have hl : ∀ r, r ∈ l0 → r.length = n.toNat ∧ r.map σ ∈ l := fun r hr => ⟨hl0 r hr, h.img r hr⟩
  exact ⟨fun x y e => e _ _ hm hl, fun r e => (e _ _ hm hl).2⟩
theorem map_fix {f : Int → Int} : ∀ {r : Rw}, (∀ z, z ∈ r → f z = z) → r.map f = r
  | [], _ => rfl
  | z :: r, h => by rw [List.map_cons, h z (by simp), map_fix fun y hy => h y (by simp [hy])]
theorem Ch.mem (h : Ch n.toNat p m l0 l σ) (hT : tok n l = true) (hl0 : ∀ r, r ∈ l0 → r.length = n.toNat) (hn : nextE l p m = none) {r : Rw} : r ∈ l ↔ LR n.toNat p m l0 r ∧ r.map σ = r := by
  constructor
  · intro hr
    exact ⟨h.rows r hr, map_fix (h.fix r hr)⟩
  · rintro ⟨h1, h2⟩
    rw [← h2]
    exact (h.has hT hl0 hn).2 r h1
theorem Ch.unique (h : Ch n.toNat p m l0 l σ) (hT : tok n l = true) (hn : nextE l p m = none) (h' : Ch n.toNat p m l0 l' σ') (hT' : tok n l' = true) (hn' : nextE l' p m = none) (hl0 : ∀ r, r ∈ l0 → r.length = n.toNat) : l = l' := by
  have hm := least (p := p) (m := m) hl0
  have hσ : ∀ s, σ s = σ' s := fun s => by
    have h1 := (h.has hT hl0 hn).1 s (σ' s) (h'.sym s)
    have h2 := (h'.has hT' hl0 hn').1 s (σ s) (h.sym s)
    have h3 := h.le (σ' s)
    have h4 := h'.le (σ s)
    omega
  have e : σ = σ' := funext hσ
  subst e
  exact ordZ_unique (tok_ord hT) (tok_ord hT') fun r => by rw [h.mem hT hl0 hn, h'.mem hT' hl0 hn']
end
end Go.Hx
end
section
namespace Go.Hx
def prodR : List (List Int) → List Rw
  | [] => [[]]
  | c :: cs => c.flatMap fun z => (prodR cs).map fun r => z :: r
theorem prodR_len : ∀ {k : Nat} {cs : List (List Int)}, (∀ c, c ∈ cs → c.length ≤ k) → (prodR cs).length ≤ k ^ cs.length
  | _, [], _ => Nat.le_refl 1
  | k, c :: cs, h => by
    have h1 := h c (by simp)
    have h2 := prodR_len (k := k) (cs := cs) fun d hd => h d (by simp [hd])
    unfold prodR
    rw [List.length_flatMap]
    simp only [List.length_map, List.map_const', List.sum_replicate_nat, List.length_cons]
    rw [Nat.pow_succ, Nat.mul_comm]
    exact Nat.mul_le_mul h2 h1
theorem mem_prodR : ∀ {cs : List (List Int)} {r : Rw}, r.length = cs.length → (∀ i, i < cs.length → r.getD i default ∈ cs.getD i default) → r ∈ prodR cs
  | [], [], _, _ => by simp [prodR]
  | [], _ :: _, h, _ => by cases h
  | _ :: _, [], h, _ => by cases h
  | c :: cs, z :: r, h, hm => by
    unfold prodR
    rw [List.mem_flatMap]
    refine ⟨z, hm 0 (by simp), List.mem_map.2 ⟨r, mem_prodR (by simpa using h) fun i hi => ?_, rfl⟩⟩
    have := hm (i + 1) (by simpa using hi)
    simpa using this
theorem ordZ_nodup {l : List Rw} (h : OrdZ l) : l.Nodup := by
  refine List.Pairwise.imp ?_ h
  intro a b hab e
  subst e
  rw [ltZ_irr] at hab
  cases hab
theorem rows_le {k N : Nat} {C : Nat → List Int} (hk : ∀ i, (C i).length ≤ k) {l : List Rw} (ho : OrdZ l) (h : ∀ r, r ∈ l → r.length = N ∧ ∀ i, i < N → r.getD i default ∈ C i) : l.length ≤ k ^ N := by
  have h1 : l.length ≤ (prodR ((List.range N).map C)).length := (ordZ_nodup ho).length_le_of_subset fun r hr => by
    obtain ⟨h2, h3⟩ := h r hr
    refine mem_prodR (by simpa using h2) fun i hi => ?_
    simp only [List.length_map, List.length_range] at hi
    have e : ((List.range N).map C).getD i default = C i := by
      rw [List.getD_eq_getElem?_getD, List.getElem?_map, List.getElem?_range hi]; rfl
    rw [e]
    exact h3 i hi
  have h2 := prodR_len (k := k) (cs := (List.range N).map C) fun c hc => by
    obtain ⟨i, _, rfl⟩ := List.mem_map.1 hc
    exact hk i
  simp only [List.length_map, List.length_range] at h2
  omega
section
variable {N : Nat} {p m : List Fd} {l0 l : List Rw}
theorem mixZ_at {a b : Rw} {s : AS} {i : Nat} (h : i < b.length) : (mixZ a b s).getD i default = if hasI s (i : Int) = true then a.getD i default else b.getD i default := by
  unfold mixZ
  rw [List.getD_eq_getElem?_getD, List.getElem?_map, List.getElem?_range h]
  rfl
theorem mdl_cols (C : Nat → List Int) (hd : ∀ i j z, z ∈ C i → z ∈ C j → i = j) : Mdl N p m (fun x y => x = y ∨ ∃ i, x ∈ C i ∧ y ∈ C i) (fun r => r.length = N ∧ ∀ i, i < N → r.getD i default ∈ C i) where
  refl _ := .inl rfl
  symm h := by
    rcases h with h | ⟨i, h, k⟩
    · exact .inl h.symm
    · exact .inr ⟨i, k, h⟩
  trans h h2 := by
    rcases h with h | ⟨i, h, k⟩
    · rw [h]; exact h2
    · rcases h2 with h2 | ⟨j, h2, k2⟩
      · rw [← h2]; exact .inr ⟨i, h, k⟩
      · have := hd i j _ k h2
        subst this
        exact .inr ⟨i, h, k2⟩
  len h := h.1
  cong h e h2 := ⟨e.trans h.1, fun i hi => by
    have h3 := h.2 i hi
    rcases h2 i (by rw [h.1]; exact hi) with h4 | ⟨j, h4, h5⟩
    · rw [← h4]; exact h3
    · have := hd i j _ h3 h4
      subst this
      exact h5⟩
  fd _ a b ha hb _ := fun i hi _ => .inr ⟨i, ha.2 i (by rw [← ha.1]; exact hi), hb.2 i (by rw [← ha.1]; exact hi)⟩
  mv _ a b ha hb _ := ⟨(mixZ_len _ _ _).trans hb.1, fun i hi => by
    rw [mixZ_at (by rw [hb.1]; exact hi)]
    split
    · exact ha.2 i hi
    · exact hb.2 i hi⟩
theorem mdl_nonneg : Mdl N p m (fun x y => 0 ≤ x ↔ 0 ≤ y) (fun r => r.length = N ∧ ∀ i, i < r.length → 0 ≤ r.getD i default) where
  refl _ := Iff.rfl
  symm h := h.symm
  trans h h2 := h.trans h2
  len h := h.1
  cong h e h2 := ⟨e.trans h.1, fun i hi => (h2 i (by omega)).1 (h.2 i (by omega))⟩
  fd _ a b ha hb _ := fun i hi _ => ⟨fun _ => hb.2 i (by rw [hb.1, ← ha.1]; exact hi), fun _ => ha.2 i hi⟩
  mv _ a b ha hb _ := ⟨(mixZ_len _ _ _).trans hb.1, fun i hi => by
    rw [mixZ_len] at hi
    rw [mixZ_at hi]
    split
    · exact ha.2 i (by rw [ha.1, ← hb.1]; exact hi)
    · exact hb.2 i hi⟩
def Small (N : Nat) (p m : List Fd) (l0 : List Rw) : Prop := ∀ l, OrdZ l → (∀ r, r ∈ l → LR N p m l0 r) → l.length ≤ 256
theorem small_of (C : Nat → List Int) (hd : ∀ i j z, z ∈ C i → z ∈ C j → i = j) {k : Nat} (hk : ∀ i, (C i).length ≤ k) (hb : k ^ N ≤ 256) (hl : ∀ r, r ∈ l0 → r.length = N ∧ ∀ i, i < N → r.getD i default ∈ C i) : Small N p m l0 := fun l ho h => by
  have := rows_le (N := N) hk ho fun r hr => h r hr _ _ (mdl_cols C hd) hl
  omega
end
section
variable {p m : List Fd} {l0 l : List Rw} {n : Int} {σ : Int → Int}
theorem tok_LR (h0 : tok n l0 = true) (hS : Small n.toNat p m l0) (ho : OrdZ l) (h : ∀ r, r ∈ l → LR n.toNat p m l0 r) : tok n l = true := by
  obtain ⟨h1, h2, _⟩ := tok_get h0
  refine tok_of h1 h2 (hS l ho h) (fun r hr => ?_) ho
  have h3 := h r hr _ _ mdl_nonneg fun r0 hr0 => ⟨(tok_wel h0 r0 hr0).1, fun i hi => (tok_wel h0 r0 hr0).2 _ (mem_getD hi)⟩
  refine ⟨h3.1, fun z hz => ?_⟩
  obtain ⟨i, hi, rfl⟩ := mem_at hz
  exact h3.2 i hi
theorem appE_ord {s : St} (h : (appE n l p m s).2.2 = 0) : OrdZ (appE n l p m s).2.1 := by
  unfold appE at *
  split at h
  · rename_i e
    rw [if_pos e]
    unfold mvE addE at *
    split at h
    · rename_i e2
      rw [if_pos e2]
      split at h
      · exact absurd h (by decide)
      · rename_i e3
        rw [if_neg e3]
        exact ordZ_canon _
    · exact absurd h (by decide)
  · rename_i e
    rw [if_neg e]
    unfold fdE at *
    split at h
    · rename_i e2
      rw [if_pos e2]
      exact ordZ_canon _
    · exact absurd h (by decide)
theorem Ch.step (h0 : tok n l0 = true) (hS : Small n.toNat p m l0) (hp : p.all (inU n) = true) (hT : tok n l = true) (h : Ch n.toNat p m l0 l σ) {s : St} (hs : okIx l p m s) (he : (appE n l p m s).2.2 = 0) :
    ∃ l' σ', appE n l p m s = (n, l', 0) ∧ tok n l' = true ∧ Ch n.toNat p m l0 l' σ' := by
  obtain ⟨h1, σ', h2⟩ := Ch.app (fun r hr => (tok_wel h0 r hr).1) hT hp h hs he
  have h3 := tok_LR h0 hS (appE_ord he) h2.rows
  refine ⟨_, σ', ?_, h3, h2⟩
  conv => lhs; rw [← Prod.eta (appE n l p m s), ← Prod.eta (appE n l p m s).2, h1, he]
theorem okIx_of {s : St} (h : okSt l p m s) : okIx l p m s := by
  obtain ⟨h1, h2, h3⟩ := h
  refine ⟨h1, h2, fun e => ?_, fun e => ?_⟩
  · rcases h3 with ⟨_, h, _⟩ | ⟨h, _⟩
    · exact h
    · rw [e] at h; cases h
  · rcases h3 with ⟨h, _⟩ | ⟨_, h, _⟩
    · rw [e] at h; cases h
    · exact h
theorem Ch.code (h0 : tok n l0 = true) (hS : Small n.toNat p m l0) (hp : p.all (inU n) = true) (hT : tok n l = true) (h : Ch n.toNat p m l0 l σ) {s : St} (hs : okSt l p m s) : (appE n l p m s).2.2 = 0 := by
  rcases app_ok hT hp hs with e | ⟨l', e, _⟩
  · obtain ⟨mu, i, a, b⟩ := s
    obtain ⟨ha, hb, hs | hs⟩ := hs
    · obtain ⟨h1, h2, h3⟩ := hs
      cases h1
      have h4 : appE n l p m (false, i, a, b) = fdE n l a b (p.getD i default) := rfl
      have hg := (fd_ok hT (List.all_eq_true.1 hp _ (mem_getD h2)) ha hb h3).1
      have hg : fdE n l a b (p.getD i default) = (n, fdL l a b (p.getD i default), 0) := hg
      rw [h4, hg] at e ⊢
    · obtain ⟨h1, h2, h3⟩ := hs
      cases h1
      have h4 : appE n l p m (true, i, a, b) = mvE n l a b (m.getD i default) := rfl
      have h5 : stepM l (m.getD i default) a b = true := h3
      unfold stepM at h5
      rw [Bool.and_eq_true] at h5
      have h6 : mvE n l a b (m.getD i default) = addE n l (mixZ (l.getD a default) (l.getD b default) ((m.getD i default).lhs ||| (m.getD i default).rhs)) := if_pos h5.1
      have hl0 : ∀ r, r ∈ l0 → r.length = n.toNat := fun r hr => (tok_wel h0 r hr).1
      have h7 := hS (canon (l ++ [mixZ (l.getD a default) (l.getD b default) ((m.getD i default).lhs ||| (m.getD i default).rhs)])) (ordZ_canon _) fun r hr => by
        rcases List.mem_append.1 (mem_canon.1 hr) with h8 | h8
        · exact h.rows r h8
        · rw [List.mem_singleton.1 h8]
          exact (least hl0).mv (mem_getD h2) (h.rows _ (mem_getD ha)) (h.rows _ (mem_getD hb)) (agr_E hl0 h5.1)
      rw [h4, h6]
      unfold addE
      rw [if_neg (by omega)]
  · rw [e]
def TrZ (n : Int) (p m : List Fd) (lend : List Rw) : List Rw → List St → Prop
  | l, [] => l = lend
  | l, s :: r => tok n l = true ∧ okSt l p m s ∧ ∃ l', appE n l p m s = (n, l', 0) ∧ ¬ l' = l ∧ TrZ n p m lend l' r
theorem steps_tr (h0 : tok n l0 = true) (hS : Small n.toNat p m l0) (hp : p.all (inU n) = true) (Z : List Int) : ∀ (F : Nat) (l : List Rw) (acc : List St) (σ : Int → Int), tok n l = true → Ch n.toNat p m l0 l σ → Cov Z l → muC Z l < F →
    ∃ sts lend σ', stepsE F n l p m acc = (acc ++ sts, (n, lend), 0) ∧ Ch n.toNat p m l0 lend σ' ∧ tok n lend = true ∧ nextE lend p m = none ∧ TrZ n p m lend l sts := by
  intro F
  induction F with
  | zero => intro _ _ _ _ _ _ h; exact absurd h (Nat.not_lt_zero _)
  | succ F ih =>
    intro l acc σ hT hC hZ hF
    cases hn : nextE l p m with
    | none => exact ⟨[], l, σ, by rw [stepsE_end (by omega) hn, List.append_nil], hC, hT, hn, rfl⟩
    | some s =>
      have hs := next_ok hn
      have hc := hC.code h0 hS hp hT hs
      obtain ⟨l', σ', e, hT', hC'⟩ := hC.step h0 hS hp hT (okIx_of hs) hc
      rcases app_ok hT hp hs with e2 | ⟨l2, e2, _, h3⟩
      · rw [e2] at hc; exact absurd hc (by decide)
      · rw [e] at e2
        simp only [Prod.mk.injEq, and_true, true_and] at e2
        subst e2
        obtain ⟨h4, h5⟩ := h3 Z hZ
        obtain ⟨sts, lend, σ2, q1, q2, q3, q4, q5⟩ := ih l' (acc ++ [s]) σ' hT' hC' h4 (by omega)
        refine ⟨s :: sts, lend, σ2, ?_, q2, q3, q4, hT, hs, l', e, fun e => ?_, q5⟩
        · rw [stepsE_next (by omega) hn e, Nat.add_sub_cancel, q1, List.append_assoc]
          rfl
        · subst e
          omega
theorem chase_tr (h0 : tok n l0 = true) (hS : Small n.toNat p m l0) (hb : bErr n p m = 0) (hT : tok n l = true) (hC : Ch n.toNat p m l0 l σ) :
    ∃ sts lend σ', chaseE FU n l p m = (sts, (n, lend), 0) ∧ Ch n.toNat p m l0 lend σ' ∧ tok n lend = true ∧ nextE lend p m = none ∧ TrZ n p m lend l sts := by
  have hck : ckE n l p m = 0 := (if_pos hT).trans hb
  rw [chaseE_1 hck]
  obtain ⟨sts, lend, σ', q1, q⟩ := steps_tr h0 hS (bErr_ok hb).2.2.2.1 l.flatten FU l [] σ hT hC (cov_self l) (mu_all hT)
  exact ⟨sts, lend, σ', by rw [q1, List.nil_append], q⟩
end
def stC (n : Int) (ps : List AS) (c : Nat) : List Int := if c < n.toNat then (List.range ps.length).map fun i => stV n i (ps.getD i default) c else []
section
variable {n : Int} {ps : List AS} {p m : List Fd}
theorem stV_mod (h0 : 0 ≤ n) {i c : Nat} {q : AS} (hc : c < n.toNat) : stV n i q c % n = (c : Int) := by
  unfold stV
  split
  · exact Int.emod_eq_of_lt (by omega) (by omega)
  · have e : n + (i : Int) * n + (c : Int) = (c : Int) + n * (1 + (i : Int)) := by rw [Int.mul_add, Int.mul_one, Int.mul_comm (i : Int) n]; omega
    rw [e, Int.add_mul_emod_self_left]
    exact Int.emod_eq_of_lt (by omega) (by omega)
theorem stC_mod (h0 : 0 ≤ n) {c : Nat} {z : Int} (h : z ∈ stC n ps c) : c < n.toNat ∧ z % n = (c : Int) := by
  unfold stC at h
  split at h
  · rename_i hc
    obtain ⟨i, _, rfl⟩ := List.mem_map.1 h
    exact ⟨hc, stV_mod h0 hc⟩
  · simp at h
theorem stC_dis (h0 : 0 ≤ n) : ∀ i j z, z ∈ stC n ps i → z ∈ stC n ps j → i = j := fun i j z h k => by
  have h1 := (stC_mod h0 h).2
  have h2 := (stC_mod h0 k).2
  omega
theorem stC_len (c : Nat) : (stC n ps c).length ≤ ps.length := by
  unfold stC
  split <;> simp
theorem stRows_col {r : Rw} (hr : r ∈ stRows n ps) : r.length = n.toNat ∧ ∀ i, i < n.toNat → r.getD i default ∈ stC n ps i := by
  unfold stRows at hr
  obtain ⟨k, hk, rfl⟩ := List.mem_map.1 hr
  refine ⟨stR_len _ _ _, fun i hi => ?_⟩
  rw [stR_at hi]
  unfold stC
  rw [if_pos hi]
  exact List.mem_map.2 ⟨k, hk, rfl⟩
theorem start_small (h0 : 0 ≤ n) (hk : ps.length ≤ 3) (hn : n ≤ 5) : Small n.toNat p m (canon (stRows n ps)) := by
  refine small_of (stC n ps) (stC_dis h0) (k := 3) (fun i => Nat.le_trans (stC_len i) hk) ?_ fun r hr => stRows_col (mem_canon.1 hr)
  have : (3 : Nat) ^ n.toNat ≤ 3 ^ 5 := Nat.pow_le_pow_right (by omega) (by omega)
  omega
end
end Go.Hx
end
