/- A part of the proof: lemmas for the theorem of this claim, merged by a program of ours out of Sp8, W22, W23, W24, W25. -/
import Derived.Test.YtdcdbghdgjlhhaaGreatN26
import Derived.Test.YtdcdbghdgjlhhaaGreatN27
set_option linter.all false
section
namespace Go.Hx
structure Str where
  db : DB
  done : List (List Chg)
  undone : List (List Chg)
  opn : Bool
  now : List Chg
abbrev Str.objs (x : Str) : List (Nat × HObj) :=
  [(1000, .box [.p (tbls x.db), .ref 901 x.done.length, .ref 902 x.undone.length, .p (.raw (.bool x.opn)), .ref 903 x.now.length]),
   (901, .arr false 1 23 x.done.length (lf txC x.done)), (902, .arr false 1 23 x.undone.length (lf txC x.undone)), (903, .arr false 11 49 x.now.length (lf Chg.c x.now))]
def bgS (x : Str) : Str := if x.opn = true then x else { x with opn := true }
def bgE (x : Str) : Int := if x.opn = true then 16 else 0
def enS (x : Str) : Str := if x.opn = true then { x with opn := false, now := [] } else x
def enE (x : Str) : Int := if x.opn = true then 0 else 16
def enL (x : Str) : List Chg := if x.opn = true then x.now else []
def cmS (x : Str) (l : List Chg) : Str := if l.length = 0 then x else { x with done := x.done ++ [l], undone := [] }
def pfS (x : Str) (c : Chg) : Str := if appErr x.db c ≠ 0 then x else if x.opn = true then { x with db := appD x.db c, now := x.now ++ [c] } else cmS { x with db := appD x.db c } [c]
def bfE (d : DB) (s : ByteArray) (id : Int) : Int := if tblIx d s < 0 then 4 else if ¬ 0 ≤ rowIx (tblAt d s).rows id then 4 else 0
def bfR (d : DB) (s : ByteArray) (id : Int) : Row := if bfE d s id = 0 then (tblAt d s).rows.getD (max (rowIx (tblAt d s).rows id) 0).toNat default else default
theorem bf4 {d : DB} {s : ByteArray} {id : Int} (h : tblIx d s < 0 ∨ ¬ 0 ≤ rowIx (tblAt d s).rows id) : bfE d s id = 4 ∧ bfR d s id = default := by
  have : bfE d s id = 4 := by
    unfold bfE
    by_cases h1 : tblIx d s < 0
    · rw [if_pos h1]
    · rw [if_neg h1, if_pos (h.resolve_left h1)]
  exact ⟨this, by rw [bfR, if_neg (by omega)]⟩
theorem bf0 {d : DB} {s : ByteArray} {id : Int} (h : ¬ tblIx d s < 0) (h2 : 0 ≤ rowIx (tblAt d s).rows id) : bfE d s id = 0 ∧ bfR d s id = (tblAt d s).rows.getD (max (rowIx (tblAt d s).rows id) 0).toNat default := by
  have : bfE d s id = 0 := by unfold bfE; rw [if_neg h, if_neg (by simpa using h2)]
  exact ⟨this, by rw [bfR, if_pos this]⟩
def chg1 (t : Tbl) : Chg := { (default : Chg) with kind := 1, name := t.name, table := t }
def chgR (k : Int) (s : ByteArray) (r : Row) : Chg := { (default : Chg) with kind := k, name := s, row := r }
def chg4 (s : ByteArray) (r : Row) (a : Int) (v : Val) : Chg := { (default : Chg) with kind := 4, name := s, row := r, attr := a, value := v }
def dlE (x : Str) (s : ByteArray) (id : Int) : Int := if bfE x.db s id ≠ 0 then bfE x.db s id else appErr x.db (chgR 3 s (bfR x.db s id))
def dlS (x : Str) (s : ByteArray) (id : Int) : Str := if bfE x.db s id ≠ 0 then x else pfS x (chgR 3 s (bfR x.db s id))
def sameV (r : Row) (a : Int) (v : Val) : Bool := decide (0 ≤ a) && decide (a < r.vals.length) && okVal v && decide (r.vals.getD a.toNat default = v)
def cgE (x : Str) (s : ByteArray) (id a : Int) (v : Val) : Int := if bfE x.db s id ≠ 0 then bfE x.db s id else if sameV (bfR x.db s id) a v = true then 0 else appErr x.db (chg4 s (bfR x.db s id) a v)
def cgS (x : Str) (s : ByteArray) (id a : Int) (v : Val) : Str := if bfE x.db s id ≠ 0 then x else if sameV (bfR x.db s id) a v = true then x else pfS x (chg4 s (bfR x.db s id) a v)
structure SOk (x : Str) : Prop where
  db : dbV x.db
  dn : x.done.length ≤ 68719476736
  nw : x.now.length ≤ 68719476736
def invC (c : Chg) : Chg :=
  if c.kind = 2 then { c with kind := 3 } else if c.kind = 3 then { c with kind := 2 }
  else if c.kind = 4 then { c with row := { c.row with vals := c.row.vals.set c.attr.toNat c.value }, value := c.row.vals.getD c.attr.toNat default } else c
theorem inv2 {c : Chg} (h : c.kind = 2) : invC c = { c with kind := 3 } := if_pos h
theorem inv3 {c : Chg} (h : c.kind = 3) : invC c = { c with kind := 2 } := by rw [invC, if_neg (by omega), if_pos h]
theorem inv4 {c : Chg} (h : c.kind = 4) : invC c = { c with row := { c.row with vals := c.row.vals.set c.attr.toNat c.value }, value := c.row.vals.getD c.attr.toNat default } := by rw [invC, if_neg (by omega), if_neg (by omega), if_pos h]
theorem inv0 {c : Chg} (h : ¬ c.kind = 2) (h3 : ¬ c.kind = 3) (h4 : ¬ c.kind = 4) : invC c = c := by rw [invC, if_neg h, if_neg h3, if_neg h4]
theorem set_coV {l : List Val} {k : Nat} {t : Val} (hk : k < l.length) : CoP (.sl l.length 3 false (setEl (lf Val.c l) k 0 [t.c 0, t.c 1, t.c 2])) (vals (l.set k t)) := by
  refine CoP.sl List.length_set (.inl rfl) (fun h => h) fun i j hi hj => CoP.of_eq ?_
  unfold setEl
  by_cases h : i = k
  · rw [lf_set_eq h (by omega)]
    match j, hj with
    | 0, _ => simp [h]
    | 1, _ => simp [h]
    | 2, _ => simp [h]
  · rw [lf_set_ne h]
    simp [h]
end Go.Hx
end
section
namespace Go.Hx
open Go.Proofs
set_option maxRecDepth 100000
theorem good27 : goodFn Tryz.prog 27 := ⟨Tryz.f27, Tryz.func27, by kernel_rfl, by kernel_rfl⟩
theorem c27 (x : Str) : HFun Tryz.prog 27 [.one (.ptr 1000 0)] x.objs (.v (.one (.p (.raw (.int .i64 (bgE x)))))) (bgS x).objs [1000] := by
  refine hfun_of (nt := 10) Tryzok Tryz.func27 rfl rfl (Nat.le_of_ble_eq_true rfl) rfl ?_; refine hw_seq ?_; refine hw_region (E := TryzE) Tryzok ?_; refine rq rfl rfl rfl rfl rfl ?_; refine rg_nil ?_; show HW _ _ _ _ _
  (iterate 2 refine hw_seq ?_); refine hw_region (E := TryzE) Tryzok ?_; (iterate 4 refine rq rfl rfl rfl rfl rfl ?_); refine rg_nil ?_; show HW _ _ _ _ _; refine hw_cond _ rfl (fun r0 => ?_) (fun r0 => ?_)
  · skip
    have h0 := r0
    refine hw_seq ?_; refine hw_region (E := TryzE) Tryzok ?_; refine rq rfl rfl rfl rfl rfl ?_; refine rg_nil ?_; show HW _ _ _ _ _; refine hw_ret ?_; refine ⟨.inr rfl, ?_⟩
    rw [show bgS x = x from if_pos (by assumption), show bgE x = 16 from if_pos (by assumption)]
    exact ⟨_, _, rfl, (by (repeat' apply And.intro) <;> first | trivial | exact Nat.le_of_ble_eq_true rfl), CoR.refl _, ⟨⟨_, rfl, CoO.refl _⟩, ⟨_, rfl, CoO.refl _⟩, ⟨_, rfl, CoO.refl _⟩, ⟨_, rfl, CoO.refl _⟩, trivial⟩⟩
  · skip
    have h0 := r0
    refine hw_skip ?_; show HW _ _ _ _ _; refine hw_seq ?_; refine hw_region (E := TryzE) Tryzok ?_; (iterate 3 refine rq rfl rfl rfl rfl rfl ?_); refine rs rfl rfl rfl rfl rfl ?_; refine rg_nil ?_; show HW _ _ _ _ _
    refine hw_seq ?_; refine hw_region (E := TryzE) Tryzok ?_; refine rq rfl rfl rfl rfl rfl ?_; refine rg_nil ?_; show HW _ _ _ _ _; refine hw_ret ?_; refine ⟨.inr rfl, ?_⟩
    rw [show bgS x = { x with opn := true } from if_neg (by simp_all), show bgE x = 0 from if_neg (by simp_all)]
    exact ⟨_, _, rfl, (by (repeat' apply And.intro) <;> first | trivial | exact Nat.le_of_ble_eq_true rfl), CoR.refl _, ⟨⟨_, rfl, CoO.refl _⟩, ⟨_, rfl, CoO.refl _⟩, ⟨_, rfl, CoO.refl _⟩, ⟨_, rfl, CoO.refl _⟩, trivial⟩⟩
theorem good22 : goodFn Tryz.prog 22 := ⟨Tryz.f22, Tryz.func22, by kernel_rfl, by kernel_rfl⟩
theorem c22h (x : Str) (hd : dbV x.db) : HFun Tryz.prog 22 [.one (.ptr 1000 0)] x.objs (.v (dbpc x.db).toH) x.objs [1000] := by
  refine hfun_of (nt := 25) Tryzok Tryz.func22 rfl rfl (Nat.le_of_ble_eq_true rfl) rfl ?_
  have hdl := hd.1
  refine hw_seq ?_; refine hw_region (E := TryzE) Tryzok ?_; refine rm 0 rfl rfl rfl rfl rfl rfl ?_; refine rg_nil ?_; show HW _ _ _ _ _; refine hw_seq ?_; refine hw_region (E := TryzE) Tryzok ?_
  refine rm 1 rfl rfl rfl rfl rfl rfl ?_; refine rg_nil ?_; show HW _ _ _ _ _; (iterate 2 refine hw_seq ?_); refine hw_region (E := TryzE) Tryzok ?_; (iterate 7 refine rq rfl rfl rfl rfl rfl ?_); refine rg_nil ?_; show HW _ _ _ _ _
  refine hw_block ?_; refine hw_adopt_cell 1 0 9 true 3 42 (lf Tbl.c x.db) (by decide) rfl rfl (CoP.sl rfl (.inr rfl) (fun h => h) (fun i j hi _ => absurd hi (Nat.not_lt_zero i))) (.inr rfl) rfl rfl ?_
  refine hw_loopK (ι := Nat) ⟨[(2, some _), (3, some _), (10, some _), (11, some _)], [(1000, some _), (901, some _), (902, some _), (903, some _), (0, some _)]⟩ ⟨⟨⟨_, rfl, CoR.refl _⟩, ⟨_, rfl, CoR.refl _⟩, ⟨_, rfl, CoR.refl _⟩, ⟨_, rfl, CoR.refl _⟩, trivial⟩, ⟨⟨_, rfl, CoO.refl _⟩, ⟨_, rfl, CoO.refl _⟩, ⟨_, rfl, CoO.refl _⟩, ⟨_, rfl, CoO.refl _⟩, ⟨_, rfl, CoO.refl _⟩, trivial⟩⟩ (fun i => ⟨[(12, some (vI i))], [(1, some (.box [.ref 9 i])), (9, some (.arr true 3 42 i (lf Tbl.c x.db)))]⟩) (fun i => i ≤ x.db.length) (fun i => x.db.length - i) (0) (Nat.zero_le _) ⟨⟨⟨_, rfl, (by first | exact CoR.refl _ | exact coi (by omega) | exact cob (by simp_all))⟩, trivial⟩, ⟨⟨_, rfl, CoO.refl _⟩, ⟨_, rfl, CoO.refl _⟩, trivial⟩⟩ ?_
  rintro i hi
  refine hw_seq ?_; refine hw_region (E := TryzE) Tryzok ?_; refine rq rfl rfl rfl rfl rfl ?_; refine rg_nil ?_; show HW _ _ _ _ _; refine hw_seq ?_; refine hw_cond _ rfl (fun r0 => ?_) (fun r0 => ?_)
  · skip
    have h0 := r0
    have h0 := of_decide_eq_true h0
    try simp only [Int.toNat_natCast] at h0
    refine hw_skip ?_; show HW _ _ _ _ _; refine hw_seq ?_; refine hw_block ?_; refine hw_seq ?_; refine hw_region (E := TryzE) Tryzok ?_; (iterate 2 refine rq rfl rfl rfl rfl rfl ?_); refine rm 2 rfl rfl rfl rfl rfl rfl ?_
    refine rs rfl rfl rfl rfl rfl ?_; refine rg_nil ?_; show HW _ _ _ _ _; refine hw_draw (E := TryzE) Tryzok Tryzmixed [0, 1, 2, 3, 4, 5, 6, 7] ?_; (iterate 3 refine rq rfl rfl rfl rfl rfl ?_)
    refine rc rfl rfl rfl rfl rfl rfl good51 (c51 _ (hd.ok.2 i (by omega))) (CoL.refl _) rfl rfl ?_; refine rm 3 rfl rfl rfl rfl rfl rfl ?_; refine ra 4 true rfl rfl rfl rfl rfl rfl ?_; refine rq rfl rfl rfl rfl rfl ?_
    refine rs rfl rfl rfl rfl rfl ?_; refine rg_nil ?_; refine ⟨by kernel_rfl, ?_⟩; show HW _ _ _ _ _; refine hw_region (E := TryzE) Tryzok ?_; (iterate 2 refine rq rfl rfl rfl rfl rfl ?_); refine rg_nil ?_
    refine ⟨i + 1, ?_, ?_, ?_⟩
    · show i + 1 ≤ _
      omega
    · first | omega | (dsimp only; omega)
    · exact ⟨⟨⟨_, rfl, (by first | exact CoR.refl _ | exact coi (by omega) | exact cob (by simp_all))⟩, ⟨_, rfl, CoR.refl _⟩, ⟨_, rfl, CoR.refl _⟩, ⟨_, rfl, CoR.refl _⟩, ⟨_, rfl, CoR.refl _⟩, trivial⟩, ⟨⟨_, rfl, CoO.refl _⟩, ⟨_, rfl, (co_push (fun h => h) (lt3 (CoP.refl _) (CoP.refl _) (CoP.refl _)))⟩, ⟨_, rfl, CoO.refl _⟩, ⟨_, rfl, CoO.refl _⟩, ⟨_, rfl, CoO.refl _⟩, ⟨_, rfl, CoO.refl _⟩, ⟨_, rfl, CoO.refl _⟩, trivial⟩⟩
  · skip
    have h0 := r0
    have h0 := of_decide_eq_false h0
    try simp only [Int.toNat_natCast] at h0
    obtain rfl : i = x.db.length := by omega
    refine hw_exit ?_; show HW _ _ _ _ _; refine hw_seq ?_; refine hw_freeze_cell 1 0 rfl rfl rfl rfl rfl ?_; refine hw_region (E := TryzE) Tryzok ?_; refine rq rfl rfl rfl rfl rfl ?_; refine rs rfl rfl rfl rfl rfl ?_
    refine rg_nil ?_; show HW _ _ _ _ _; refine hw_ret ?_; refine ⟨.inr rfl, ?_⟩
    exact ⟨_, _, rfl, (by (repeat' apply And.intro) <;> first | trivial | exact Nat.le_of_ble_eq_true rfl), CoR.refl _, ⟨⟨_, rfl, CoO.refl _⟩, ⟨_, rfl, CoO.refl _⟩, ⟨_, rfl, CoO.refl _⟩, ⟨_, rfl, CoO.refl _⟩, trivial⟩⟩
theorem c22p (d : DB) (p q r t : PV) (hd : dbV d) : HFun Tryz.prog 22 [.one (.ptr 1000 0)] [(1000, .box [.p (tbls d), .p p, .p q, .p r, .p t])] (.v (dbpc d).toH) [(1000, .box [.p (tbls d), .p p, .p q, .p r, .p t])] [1000] := by
  refine hfun_of (nt := 25) Tryzok Tryz.func22 rfl rfl (Nat.le_of_ble_eq_true rfl) rfl ?_
  have hdl := hd.1
  refine hw_seq ?_; refine hw_region (E := TryzE) Tryzok ?_; refine rm 0 rfl rfl rfl rfl rfl rfl ?_; refine rg_nil ?_; show HW _ _ _ _ _; refine hw_seq ?_; refine hw_region (E := TryzE) Tryzok ?_
  refine rm 1 rfl rfl rfl rfl rfl rfl ?_; refine rg_nil ?_; show HW _ _ _ _ _; (iterate 2 refine hw_seq ?_); refine hw_region (E := TryzE) Tryzok ?_; (iterate 7 refine rq rfl rfl rfl rfl rfl ?_); refine rg_nil ?_; show HW _ _ _ _ _
  refine hw_block ?_; refine hw_adopt_cell 1 0 9 true 3 42 (lf Tbl.c d) (by decide) rfl rfl (CoP.sl rfl (.inr rfl) (fun h => h) (fun i j hi _ => absurd hi (Nat.not_lt_zero i))) (.inr rfl) rfl rfl ?_
  refine hw_loopK (ι := Nat) ⟨[(2, some _), (3, some _), (10, some _), (11, some _)], [(1000, some _), (0, some _)]⟩ ⟨⟨⟨_, rfl, CoR.refl _⟩, ⟨_, rfl, CoR.refl _⟩, ⟨_, rfl, CoR.refl _⟩, ⟨_, rfl, CoR.refl _⟩, trivial⟩, ⟨⟨_, rfl, CoO.refl _⟩, ⟨_, rfl, CoO.refl _⟩, trivial⟩⟩ (fun i => ⟨[(12, some (vI i))], [(1, some (.box [.ref 9 i])), (9, some (.arr true 3 42 i (lf Tbl.c d)))]⟩) (fun i => i ≤ d.length) (fun i => d.length - i) (0) (Nat.zero_le _) ⟨⟨⟨_, rfl, (by first | exact CoR.refl _ | exact coi (by omega) | exact cob (by simp_all))⟩, trivial⟩, ⟨⟨_, rfl, CoO.refl _⟩, ⟨_, rfl, CoO.refl _⟩, trivial⟩⟩ ?_
  rintro i hi
  refine hw_seq ?_; refine hw_region (E := TryzE) Tryzok ?_; refine rq rfl rfl rfl rfl rfl ?_; refine rg_nil ?_; show HW _ _ _ _ _; refine hw_seq ?_; refine hw_cond _ rfl (fun r0 => ?_) (fun r0 => ?_)
  · skip
    have h0 := r0
    have h0 := of_decide_eq_true h0
    try simp only [Int.toNat_natCast] at h0
    refine hw_skip ?_; show HW _ _ _ _ _; refine hw_seq ?_; refine hw_block ?_; refine hw_seq ?_; refine hw_region (E := TryzE) Tryzok ?_; (iterate 2 refine rq rfl rfl rfl rfl rfl ?_); refine rm 2 rfl rfl rfl rfl rfl rfl ?_
    refine rs rfl rfl rfl rfl rfl ?_; refine rg_nil ?_; show HW _ _ _ _ _; refine hw_draw (E := TryzE) Tryzok Tryzmixed [0, 1, 2, 3, 4, 5, 6, 7] ?_; (iterate 3 refine rq rfl rfl rfl rfl rfl ?_)
    refine rc rfl rfl rfl rfl rfl rfl good51 (c51 _ (hd.ok.2 i (by omega))) (CoL.refl _) rfl rfl ?_; refine rm 3 rfl rfl rfl rfl rfl rfl ?_; refine ra 4 true rfl rfl rfl rfl rfl rfl ?_; refine rq rfl rfl rfl rfl rfl ?_
    refine rs rfl rfl rfl rfl rfl ?_; refine rg_nil ?_; refine ⟨by kernel_rfl, ?_⟩; show HW _ _ _ _ _; refine hw_region (E := TryzE) Tryzok ?_; (iterate 2 refine rq rfl rfl rfl rfl rfl ?_); refine rg_nil ?_
    refine ⟨i + 1, ?_, ?_, ?_⟩
    · show i + 1 ≤ _
      omega
    · first | omega | (dsimp only; omega)
    · exact ⟨⟨⟨_, rfl, (by first | exact CoR.refl _ | exact coi (by omega) | exact cob (by simp_all))⟩, ⟨_, rfl, CoR.refl _⟩, ⟨_, rfl, CoR.refl _⟩, ⟨_, rfl, CoR.refl _⟩, ⟨_, rfl, CoR.refl _⟩, trivial⟩, ⟨⟨_, rfl, CoO.refl _⟩, ⟨_, rfl, (co_push (fun h => h) (lt3 (CoP.refl _) (CoP.refl _) (CoP.refl _)))⟩, ⟨_, rfl, CoO.refl _⟩, ⟨_, rfl, CoO.refl _⟩, trivial⟩⟩
  · skip
    have h0 := r0
    have h0 := of_decide_eq_false h0
    try simp only [Int.toNat_natCast] at h0
    obtain rfl : i = d.length := by omega
    refine hw_exit ?_; show HW _ _ _ _ _; refine hw_seq ?_; refine hw_freeze_cell 1 0 rfl rfl rfl rfl rfl ?_; refine hw_region (E := TryzE) Tryzok ?_; refine rq rfl rfl rfl rfl rfl ?_; refine rs rfl rfl rfl rfl rfl ?_
    refine rg_nil ?_; show HW _ _ _ _ _; refine hw_ret ?_; refine ⟨.inr rfl, ?_⟩
    exact ⟨_, _, rfl, (by (repeat' apply And.intro) <;> first | trivial | exact Nat.le_of_ble_eq_true rfl), CoR.refl _, ⟨⟨_, rfl, CoO.refl _⟩, trivial⟩⟩
theorem good14 : goodFn Tryz.prog 14 := ⟨Tryz.f14, Tryz.func14, by kernel_rfl, by kernel_rfl⟩
theorem c14 (l : List Chg) (h : chgsOk l) : HPure Tryz.prog 14 [pP (chgs l)] (prOf [dbpc (replD [] l), pI (replE [] l)]) := by
  refine hpure_of (nt := 31) Tryzok Tryz.func14 rfl rfl (Nat.le_of_ble_eq_true rfl) ?_; refine hw_bt 0 rfl (fun hn => ?_); refine hw_seq ?_; refine hw_region (E := TryzE) Tryzok ?_; refine rm 0 rfl rfl rfl rfl rfl rfl ?_
  refine rq rfl rfl rfl rfl rfl ?_; refine rg_nil ?_; show HW _ _ _ _ _; refine hw_seq ?_; refine hw_region (E := TryzE) Tryzok ?_; refine rm 1 rfl rfl rfl rfl rfl rfl ?_; refine rg_nil ?_; show HW _ _ _ _ _
  (iterate 2 refine hw_seq ?_); refine hw_region (E := TryzE) Tryzok ?_; (iterate 3 refine rq rfl rfl rfl rfl rfl ?_); refine rg_nil ?_; show HW _ _ _ _ _; refine hw_block ?_
  refine hw_loopK (ι := (Nat × DB)) ⟨[(2, some _), (4, some _), (10, some _), (11, some _)], [(0, some _)]⟩ ⟨⟨⟨_, rfl, CoR.refl _⟩, ⟨_, rfl, CoR.refl _⟩, ⟨_, rfl, CoR.refl _⟩, ⟨_, rfl, CoR.refl _⟩, trivial⟩, ⟨⟨_, rfl, CoO.refl _⟩, trivial⟩⟩ (fun x => ⟨[(12, some (vI x.1))], [(1, some (.box [.p (tbls x.2)]))]⟩) (fun x => x.1 ≤ l.length ∧ dbV x.2 ∧ replE x.2 (l.drop x.1) = replE [] l ∧ replD x.2 (l.drop x.1) = replD [] l) (fun x => l.length - x.1) ((0, [])) (⟨Nat.zero_le _, dbV_nil, rfl, rfl⟩) ⟨⟨⟨_, rfl, (by first | exact CoR.refl _ | exact coi (by omega) | exact cob (by simp_all))⟩, trivial⟩, ⟨⟨_, rfl, ⟨co_nil, trivial⟩⟩, trivial⟩⟩ ?_
  rintro ⟨i, d⟩ ⟨hi, hd, hE, hD⟩
  dsimp only at hi hE hD ⊢
  refine hw_seq ?_; refine hw_region (E := TryzE) Tryzok ?_; refine rq rfl rfl rfl rfl rfl ?_; refine rg_nil ?_; show HW _ _ _ _ _; refine hw_seq ?_; refine hw_cond _ rfl (fun r0 => ?_) (fun r0 => ?_)
  · skip
    have h0 := r0
    have h0 := of_decide_eq_true h0
    try simp only [Int.toNat_natCast] at h0
    refine hw_skip ?_; show HW _ _ _ _ _; refine hw_seq ?_; refine hw_block ?_; refine hw_seq ?_; refine hw_region (E := TryzE) Tryzok ?_; (iterate 2 refine rq rfl rfl rfl rfl rfl ?_); refine rm 2 rfl rfl rfl rfl rfl rfl ?_
    refine rs rfl rfl rfl rfl rfl ?_; refine rg_nil ?_; show HW _ _ _ _ _; refine hw_seq ?_; refine hw_region (E := TryzE) Tryzok ?_; (iterate 2 refine rq rfl rfl rfl rfl rfl ?_)
    refine rc rfl rfl rfl rfl rfl rfl good45 (c45 d (l.getD i default) hd (h i (by omega))) (CoL.refl _) rfl rfl ?_; (iterate 3 refine rq rfl rfl rfl rfl rfl ?_); refine rm 3 rfl rfl rfl rfl rfl rfl ?_
    refine rs rfl rfl rfl rfl rfl ?_; refine rq rfl rfl rfl rfl rfl ?_; refine rg_nil ?_; show HW _ _ _ _ _; (iterate 2 refine hw_seq ?_); refine hw_region (E := TryzE) Tryzok ?_; (iterate 2 refine rq rfl rfl rfl rfl rfl ?_)
    refine rg_nil ?_; show HW _ _ _ _ _; refine hw_cond _ rfl (fun r1 => ?_) (fun r1 => ?_)
    · skip
      have h1 := r1
      have h1 := of_decide_eq_false (not_t h1)
      try simp only [Int.toNat_natCast] at h1
      have hz : ¬ appErr d (l.getD i default) = 0 := h1
      refine hw_seq ?_; refine hw_region (E := TryzE) Tryzok ?_; (iterate 2 refine rq rfl rfl rfl rfl rfl ?_); refine rs rfl rfl rfl rfl rfl ?_; refine rq rfl rfl rfl rfl rfl ?_; refine rg_nil ?_; show HW _ _ _ _ _; refine hw_ret ?_
      refine ⟨.inr rfl, ?_⟩
      obtain ⟨g1, g2⟩ := repl_stop (d := d) (by omega) hz
      rw [← hD, ← hE, g1, g2]
      exact ⟨_, _, _, _, rfl, (by (repeat' apply And.intro) <;> first | trivial | exact Nat.le_of_ble_eq_true rfl | rfl), rfl, (by (repeat' apply And.intro) <;> first | trivial | exact Nat.le_of_ble_eq_true rfl | rfl), ⟨CoC.agg ⟨co_nil, trivial⟩, CoC.refl _, trivial⟩⟩
    · skip
      have h1 := r1
      have h1 := of_decide_eq_true (not_f h1)
      try simp only [Int.toNat_natCast] at h1
      have hz : appErr d (l.getD i default) = 0 := h1
      refine hw_skip ?_; show HW _ _ _ _ _; refine hw_region (E := TryzE) Tryzok ?_; refine rq rfl rfl rfl rfl rfl ?_; refine rs rfl rfl rfl rfl rfl ?_; refine rg_nil ?_; show HW _ _ _ _ _; refine hw_region (E := TryzE) Tryzok ?_
      (iterate 2 refine rq rfl rfl rfl rfl rfl ?_); refine rg_nil ?_; refine ⟨(i + 1, appD d (l.getD i default)), ?_, ?_, ?_⟩
      · obtain ⟨g1, g2⟩ := repl_step (by omega) hz
        exact ⟨by dsimp only; omega, app_V hd, g1 ▸ hE, g2 ▸ hD⟩
      · first | omega | (dsimp only; omega)
      · exact ⟨⟨⟨_, rfl, (by first | exact CoR.refl _ | exact coi (by omega) | exact cob (by simp_all))⟩, ⟨_, rfl, CoR.refl _⟩, ⟨_, rfl, CoR.refl _⟩, ⟨_, rfl, CoR.refl _⟩, ⟨_, rfl, CoR.refl _⟩, trivial⟩, ⟨⟨_, rfl, CoO.refl _⟩, ⟨_, rfl, CoO.refl _⟩, trivial⟩⟩
  · skip
    have h0 := r0
    have h0 := of_decide_eq_false h0
    try simp only [Int.toNat_natCast] at h0
    obtain rfl : i = l.length := by omega
    rw [List.drop_length] at hE hD
    refine hw_exit ?_; show HW _ _ _ _ _; refine hw_seq ?_; refine hw_region (E := TryzE) Tryzok ?_; (iterate 2 refine rq rfl rfl rfl rfl rfl ?_); refine rm 4 rfl rfl rfl rfl rfl rfl ?_; refine rs rfl rfl rfl rfl rfl ?_
    refine rg_nil ?_; show HW _ _ _ _ _; refine hw_seq ?_; refine hw_region (E := TryzE) Tryzok ?_
    refine rg_fcall rfl rfl rfl rfl rfl rfl good22 ((c22p d _ _ _ _ hd).swap 1000 4) (CoHCL.refl _) ⟨⟨_, rfl, CoO.refl _⟩, trivial⟩ rfl rfl ?_; refine rs rfl rfl rfl rfl rfl ?_; refine rq rfl rfl rfl rfl rfl ?_; refine rg_nil ?_
    show HW _ _ _ _ _; refine hw_ret ?_; refine ⟨.inr rfl, ?_⟩
    rw [← hD, ← hE]
    exact ⟨_, _, _, _, rfl, (by (repeat' apply And.intro) <;> first | trivial | exact Nat.le_of_ble_eq_true rfl | rfl), rfl, (by (repeat' apply And.intro) <;> first | trivial | exact Nat.le_of_ble_eq_true rfl | rfl), CoL.refl _⟩
end Go.Hx
end
section
namespace Go.Hx
open Go.Proofs
set_option maxRecDepth 100000
theorem good56 : goodFn Tryz.prog 56 := ⟨Tryz.f56, Tryz.func56, by kernel_rfl, by kernel_rfl⟩
theorem c56h (x : Str) (l : List Chg) (h : x.done.length ≤ 68719476736) : HFun Tryz.prog 56 [.one (.ptr 1000 0), .one (.p (chgs l))] x.objs (.tup []) (cmS x l).objs [1000] := by
  refine hfun_of (nt := 20) Tryzok Tryz.func56 rfl rfl (Nat.le_of_ble_eq_true rfl) rfl ?_; refine hw_fin ?_; refine hw_seq ?_; refine hw_region (E := TryzE) Tryzok ?_; (iterate 3 refine rq rfl rfl rfl rfl rfl ?_); refine rg_nil ?_
  show HW _ _ _ _ _; refine hw_cond _ rfl (fun r0 => ?_) (fun r0 => ?_)
  · skip
    have h0 := r0
    have h0 := of_decide_eq_true h0
    try simp only [Int.toNat_natCast] at h0
    refine hw_region (E := TryzE) Tryzok ?_; (iterate 7 refine rq rfl rfl rfl rfl rfl ?_); refine rm 0 rfl rfl rfl rfl rfl rfl ?_; refine ra 1 true rfl rfl rfl rfl rfl rfl ?_; (iterate 2 refine rq rfl rfl rfl rfl rfl ?_)
    refine rs rfl rfl rfl rfl rfl ?_; (iterate 2 refine rq rfl rfl rfl rfl rfl ?_); refine rs rfl rfl rfl rfl rfl ?_; refine rg_nil ?_
    show HE _ _ _
    first | (refine he_sub ⟨[], [(1000, some _), (901, some _), (903, some _)]⟩ ⟨trivial, ⟨⟨_, rfl, CoO.refl _⟩, ⟨_, rfl, CoO.refl _⟩, ⟨_, rfl, CoO.refl _⟩, trivial⟩⟩ ?_; refine he_adopt_cell 1000 2 902 false 1 23 (lf txC []) (by decide) rfl rfl (CoP.sl rfl (.inr rfl) (fun h => h) (fun i j hi _ => absurd hi (Nat.not_lt_zero i))) (.inl rfl) rfl rfl ?_) | skip
    refine he_done ?_; refine ⟨.inl rfl, ?_⟩
    first | (rw [show cmS x l = x from if_pos (by omega)]; exact ⟨_, _, rfl, (by (repeat' apply And.intro) <;> first | trivial | exact Nat.le_of_ble_eq_true rfl), CoR.refl _, ⟨⟨_, rfl, CoO.refl _⟩, ⟨_, rfl, CoO.refl _⟩, ⟨_, rfl, CoO.refl _⟩, ⟨_, rfl, CoO.refl _⟩, trivial⟩⟩) | (rw [show cmS x l = { x with done := x.done ++ [l], undone := [] } from if_neg (by omega)]; exact ⟨_, _, rfl, (by (repeat' apply And.intro) <;> first | trivial | exact Nat.le_of_ble_eq_true rfl), CoR.refl _, ⟨⟨_, rfl, ⟨CoH.refl _, congrArg (HV.ref 901) (by simp), CoH.refl _, CoH.refl _, CoH.refl _, trivial⟩⟩, ⟨_, rfl, (co_app _ (fun _ => rfl) rfl (lt1b (lt1 (CoP.refl _))))⟩, ⟨_, rfl, CoO.refl _⟩, ⟨_, rfl, CoO.refl _⟩, trivial⟩⟩)
  · skip
    have h0 := r0
    have h0 := of_decide_eq_false h0
    try simp only [Int.toNat_natCast] at h0
    refine hw_skip ?_
    show HE _ _ _
    first | (refine he_sub ⟨[], [(1000, some _), (901, some _), (903, some _)]⟩ ⟨trivial, ⟨⟨_, rfl, CoO.refl _⟩, ⟨_, rfl, CoO.refl _⟩, ⟨_, rfl, CoO.refl _⟩, trivial⟩⟩ ?_; refine he_adopt_cell 1000 2 902 false 1 23 (lf txC []) (by decide) rfl rfl (CoP.sl rfl (.inr rfl) (fun h => h) (fun i j hi _ => absurd hi (Nat.not_lt_zero i))) (.inl rfl) rfl rfl ?_) | skip
    refine he_done ?_; refine ⟨.inl rfl, ?_⟩
    first | (rw [show cmS x l = x from if_pos (by omega)]; exact ⟨_, _, rfl, (by (repeat' apply And.intro) <;> first | trivial | exact Nat.le_of_ble_eq_true rfl), CoR.refl _, ⟨⟨_, rfl, CoO.refl _⟩, ⟨_, rfl, CoO.refl _⟩, ⟨_, rfl, CoO.refl _⟩, ⟨_, rfl, CoO.refl _⟩, trivial⟩⟩) | (rw [show cmS x l = { x with done := x.done ++ [l], undone := [] } from if_neg (by omega)]; exact ⟨_, _, rfl, (by (repeat' apply And.intro) <;> first | trivial | exact Nat.le_of_ble_eq_true rfl), CoR.refl _, ⟨⟨_, rfl, ⟨CoH.refl _, congrArg (HV.ref 901) (by simp), CoH.refl _, CoH.refl _, CoH.refl _, trivial⟩⟩, ⟨_, rfl, (co_app _ (fun _ => rfl) rfl (lt1b (lt1 (CoP.refl _))))⟩, ⟨_, rfl, CoO.refl _⟩, ⟨_, rfl, CoO.refl _⟩, trivial⟩⟩)
theorem c56a (x : Str) (l : List Chg) (h : x.done.length ≤ 68719476736) : HFun Tryz.prog 56 [.one (.ptr 1000 0), .one (.ref 904 l.length)] (x.objs ++ [(904, .arr true 11 49 l.length (lf Chg.c l))]) (.tup []) (cmS x l).objs [1000] := by
  refine hfun_of (nt := 20) Tryzok Tryz.func56 rfl rfl (Nat.le_of_ble_eq_true rfl) rfl ?_; refine hw_fin ?_; refine hw_freeze 1 rfl rfl rfl ?_; refine hw_seq ?_; refine hw_region (E := TryzE) Tryzok ?_
  (iterate 3 refine rq rfl rfl rfl rfl rfl ?_); refine rg_nil ?_; show HW _ _ _ _ _; refine hw_cond _ rfl (fun r0 => ?_) (fun r0 => ?_)
  · skip
    have h0 := r0
    have h0 := of_decide_eq_true h0
    try simp only [Int.toNat_natCast] at h0
    refine hw_region (E := TryzE) Tryzok ?_; (iterate 7 refine rq rfl rfl rfl rfl rfl ?_); refine rm 0 rfl rfl rfl rfl rfl rfl ?_; refine ra 1 true rfl rfl rfl rfl rfl rfl ?_; (iterate 2 refine rq rfl rfl rfl rfl rfl ?_)
    refine rs rfl rfl rfl rfl rfl ?_; (iterate 2 refine rq rfl rfl rfl rfl rfl ?_); refine rs rfl rfl rfl rfl rfl ?_; refine rg_nil ?_
    show HE _ _ _
    first | (refine he_sub ⟨[], [(1000, some _), (901, some _), (903, some _)]⟩ ⟨trivial, ⟨⟨_, rfl, CoO.refl _⟩, ⟨_, rfl, CoO.refl _⟩, ⟨_, rfl, CoO.refl _⟩, trivial⟩⟩ ?_; refine he_adopt_cell 1000 2 902 false 1 23 (lf txC []) (by decide) rfl rfl (CoP.sl rfl (.inr rfl) (fun h => h) (fun i j hi _ => absurd hi (Nat.not_lt_zero i))) (.inl rfl) rfl rfl ?_) | skip
    refine he_done ?_; refine ⟨.inl rfl, ?_⟩
    first | (rw [show cmS x l = x from if_pos (by omega)]; exact ⟨_, _, rfl, (by (repeat' apply And.intro) <;> first | trivial | exact Nat.le_of_ble_eq_true rfl), CoR.refl _, ⟨⟨_, rfl, CoO.refl _⟩, ⟨_, rfl, CoO.refl _⟩, ⟨_, rfl, CoO.refl _⟩, ⟨_, rfl, CoO.refl _⟩, trivial⟩⟩) | (rw [show cmS x l = { x with done := x.done ++ [l], undone := [] } from if_neg (by omega)]; exact ⟨_, _, rfl, (by (repeat' apply And.intro) <;> first | trivial | exact Nat.le_of_ble_eq_true rfl), CoR.refl _, ⟨⟨_, rfl, ⟨CoH.refl _, congrArg (HV.ref 901) (by simp), CoH.refl _, CoH.refl _, CoH.refl _, trivial⟩⟩, ⟨_, rfl, (co_app _ (fun _ => rfl) rfl (lt1b (lt1 (CoP.refl _))))⟩, ⟨_, rfl, CoO.refl _⟩, ⟨_, rfl, CoO.refl _⟩, trivial⟩⟩)
  · skip
    have h0 := r0
    have h0 := of_decide_eq_false h0
    try simp only [Int.toNat_natCast] at h0
    refine hw_skip ?_
    show HE _ _ _
    first | (refine he_sub ⟨[], [(1000, some _), (901, some _), (903, some _)]⟩ ⟨trivial, ⟨⟨_, rfl, CoO.refl _⟩, ⟨_, rfl, CoO.refl _⟩, ⟨_, rfl, CoO.refl _⟩, trivial⟩⟩ ?_; refine he_adopt_cell 1000 2 902 false 1 23 (lf txC []) (by decide) rfl rfl (CoP.sl rfl (.inr rfl) (fun h => h) (fun i j hi _ => absurd hi (Nat.not_lt_zero i))) (.inl rfl) rfl rfl ?_) | skip
    refine he_done ?_; refine ⟨.inl rfl, ?_⟩
    first | (rw [show cmS x l = x from if_pos (by omega)]; exact ⟨_, _, rfl, (by (repeat' apply And.intro) <;> first | trivial | exact Nat.le_of_ble_eq_true rfl), CoR.refl _, ⟨⟨_, rfl, CoO.refl _⟩, ⟨_, rfl, CoO.refl _⟩, ⟨_, rfl, CoO.refl _⟩, ⟨_, rfl, CoO.refl _⟩, trivial⟩⟩) | (rw [show cmS x l = { x with done := x.done ++ [l], undone := [] } from if_neg (by omega)]; exact ⟨_, _, rfl, (by (repeat' apply And.intro) <;> first | trivial | exact Nat.le_of_ble_eq_true rfl), CoR.refl _, ⟨⟨_, rfl, ⟨CoH.refl _, congrArg (HV.ref 901) (by simp), CoH.refl _, CoH.refl _, CoH.refl _, trivial⟩⟩, ⟨_, rfl, (co_app _ (fun _ => rfl) rfl (lt1b (lt1 (CoP.refl _))))⟩, ⟨_, rfl, CoO.refl _⟩, ⟨_, rfl, CoO.refl _⟩, trivial⟩⟩)
end Go.Hx
end
section
namespace Go.Hx
open Go.Proofs
set_option maxRecDepth 100000
theorem good55 : goodFn Tryz.prog 55 := ⟨Tryz.f55, Tryz.func55, by kernel_rfl, by kernel_rfl⟩
theorem c55h (x : Str) : HFun Tryz.prog 55 [.one (.ptr 1000 0)] x.objs (.tup [.one (.p (chgs (enL x))), .one (.p (.raw (.int .i64 (enE x))))]) (enS x).objs [1000] := by
  refine hfun_of (nt := 21) Tryzok Tryz.func55 rfl rfl (Nat.le_of_ble_eq_true rfl) rfl ?_; refine hw_fin ?_; refine hw_seq ?_; refine hw_region (E := TryzE) Tryzok ?_; (iterate 2 refine rq rfl rfl rfl rfl rfl ?_); refine rg_nil ?_
  show HW _ _ _ _ _; (iterate 2 refine hw_seq ?_); refine hw_region (E := TryzE) Tryzok ?_; (iterate 5 refine rq rfl rfl rfl rfl rfl ?_); refine rg_nil ?_; show HW _ _ _ _ _; refine hw_cond _ rfl (fun r0 => ?_) (fun r0 => ?_)
  · skip
    have h0 := r0
    have h0 := not_t h0
    refine hw_seq ?_; refine hw_region (E := TryzE) Tryzok ?_; (iterate 2 refine rq rfl rfl rfl rfl rfl ?_); refine rg_nil ?_; show HW _ _ _ _ _; refine hw_ret ?_
    show HE _ _ _
    refine he_done ?_; refine ⟨.inr rfl, ?_⟩
    rw [show enL x = [] from if_neg (by simp_all), show enE x = 16 from if_neg (by simp_all), show enS x = x from if_neg (by simp_all)]
    exact ⟨_, _, rfl, (by (repeat' apply And.intro) <;> first | trivial | exact Nat.le_of_ble_eq_true rfl), ⟨co_nil, CoHC.refl _, trivial⟩, ⟨⟨_, rfl, CoO.refl _⟩, ⟨_, rfl, CoO.refl _⟩, ⟨_, rfl, CoO.refl _⟩, ⟨_, rfl, CoO.refl _⟩, trivial⟩⟩
  · skip
    have h0 := r0
    have h0 := not_f h0
    refine hw_skip ?_; show HW _ _ _ _ _; refine hw_seq ?_; refine hw_freeze_cell 1000 4 rfl rfl rfl rfl rfl ?_; refine hw_region (E := TryzE) Tryzok ?_; (iterate 5 refine rq rfl rfl rfl rfl rfl ?_); refine rg_nil ?_
    show HW _ _ _ _ _; refine hw_seq ?_; refine hw_region (E := TryzE) Tryzok ?_; (iterate 4 refine rq rfl rfl rfl rfl rfl ?_); refine rs rfl rfl rfl rfl rfl ?_; (iterate 2 refine rq rfl rfl rfl rfl rfl ?_)
    refine rs rfl rfl rfl rfl rfl ?_; refine rg_nil ?_; show HW _ _ _ _ _; refine hw_seq ?_; refine hw_region (E := TryzE) Tryzok ?_; (iterate 3 refine rq rfl rfl rfl rfl rfl ?_); refine rg_nil ?_; show HW _ _ _ _ _
    refine hw_ret ?_
    show HE _ _ _
    refine he_sub ⟨[(2, some _), (3, some _)], [(1000, some _), (901, some _), (902, some _)]⟩ ⟨⟨⟨_, rfl, CoR.refl _⟩, ⟨_, rfl, CoR.refl _⟩, trivial⟩, ⟨⟨_, rfl, CoO.refl _⟩, ⟨_, rfl, CoO.refl _⟩, ⟨_, rfl, CoO.refl _⟩, trivial⟩⟩ ?_
    refine he_adopt_cell 1000 4 903 false 11 49 (lf Chg.c []) (by decide) rfl rfl (CoP.sl rfl (.inr rfl) (fun h => h) (fun i j hi _ => absurd hi (Nat.not_lt_zero i))) (.inl rfl) rfl rfl ?_; refine he_done ?_; refine ⟨.inr rfl, ?_⟩
    rw [show enL x = x.now from if_pos (by simp_all), show enE x = 0 from if_pos (by simp_all), show enS x = { x with opn := false, now := [] } from if_pos (by simp_all)]
    exact ⟨_, _, rfl, (by (repeat' apply And.intro) <;> first | trivial | exact Nat.le_of_ble_eq_true rfl), CoR.refl _, ⟨⟨_, rfl, CoO.refl _⟩, ⟨_, rfl, CoO.refl _⟩, ⟨_, rfl, CoO.refl _⟩, ⟨_, rfl, CoO.refl _⟩, trivial⟩⟩
theorem good57 : goodFn Tryz.prog 57 := ⟨Tryz.f57, Tryz.func57, by kernel_rfl, by kernel_rfl⟩
theorem c57h (x : Str) (c : Chg) (hd : dbV x.db) (hc : c.ok) (h : x.done.length ≤ 68719476736) (h2 : x.now.length ≤ 68719476736) : HFun Tryz.prog 57 [.one (.ptr 1000 0), c.pc.toH] x.objs (.v (.one (.p (.raw (.int .i64 (appErr x.db c)))))) (pfS x c).objs [1000] := by
  refine hfun_of (nt := 41) Tryzok Tryz.func57 rfl rfl (Nat.le_of_ble_eq_true rfl) rfl ?_; refine hw_seq ?_; refine hw_region (E := TryzE) Tryzok ?_; refine rm 0 rfl rfl rfl rfl rfl rfl ?_; refine rq rfl rfl rfl rfl rfl ?_
  refine rg_nil ?_; show HW _ _ _ _ _; refine hw_seq ?_; refine hw_draw (E := TryzE) Tryzok Tryzmixed [0, 1, 2, 3, 4, 5, 6, 7, 8, 9, 10, 11] ?_; (iterate 5 refine rq rfl rfl rfl rfl rfl ?_)
  refine rc rfl rfl rfl rfl rfl rfl good45 (c45 x.db c hd hc) (CoL.refl _) rfl rfl ?_; (iterate 3 refine rq rfl rfl rfl rfl rfl ?_); refine rm 1 rfl rfl rfl rfl rfl rfl ?_; refine rs rfl rfl rfl rfl rfl ?_
  refine rq rfl rfl rfl rfl rfl ?_; refine rg_nil ?_; refine ⟨by kernel_rfl, ?_⟩; show HW _ _ _ _ _; (iterate 2 refine hw_seq ?_); refine hw_region (E := TryzE) Tryzok ?_; (iterate 2 refine rq rfl rfl rfl rfl rfl ?_)
  refine rg_nil ?_; show HW _ _ _ _ _; refine hw_cond _ rfl (fun r0 => ?_) (fun r0 => ?_)
  · skip
    have h0 := r0
    have h0 := of_decide_eq_false (not_t h0)
    try simp only [Int.toNat_natCast] at h0
    refine hw_seq ?_; refine hw_region (E := TryzE) Tryzok ?_; (iterate 2 refine rq rfl rfl rfl rfl rfl ?_); refine rg_nil ?_; show HW _ _ _ _ _; refine hw_ret ?_; refine ⟨.inr rfl, ?_⟩
    rw [show pfS x c = x from if_pos (by simp_all)]
    exact ⟨_, _, rfl, (by (repeat' apply And.intro) <;> first | trivial | exact Nat.le_of_ble_eq_true rfl), CoR.refl _, ⟨⟨_, rfl, CoO.refl _⟩, ⟨_, rfl, CoO.refl _⟩, ⟨_, rfl, CoO.refl _⟩, ⟨_, rfl, CoO.refl _⟩, trivial⟩⟩
  · skip
    have h0 := r0
    have h0 := of_decide_eq_true (not_f h0)
    try simp only [Int.toNat_natCast] at h0
    refine hw_skip ?_; show HW _ _ _ _ _; refine hw_seq ?_; refine hw_region (E := TryzE) Tryzok ?_; (iterate 4 refine rq rfl rfl rfl rfl rfl ?_); refine rs rfl rfl rfl rfl rfl ?_; refine rg_nil ?_; show HW _ _ _ _ _
    (iterate 2 refine hw_seq ?_); refine hw_region (E := TryzE) Tryzok ?_; (iterate 4 refine rq rfl rfl rfl rfl rfl ?_); refine rg_nil ?_; show HW _ _ _ _ _; refine hw_cond _ rfl (fun r1 => ?_) (fun r1 => ?_)
    · skip
      have h1 := r1
      refine hw_draw (E := TryzE) Tryzok Tryzmixed [0, 1, 2, 3, 4, 5, 6, 7, 8, 9, 10] ?_; (iterate 6 refine rq rfl rfl rfl rfl rfl ?_); refine rm 2 rfl rfl rfl rfl rfl rfl ?_; refine ra 3 true rfl rfl rfl rfl rfl rfl ?_
      (iterate 2 refine rq rfl rfl rfl rfl rfl ?_); refine rs rfl rfl rfl rfl rfl ?_; refine rg_nil ?_; refine ⟨by kernel_rfl, ?_⟩; show HW _ _ _ _ _; refine hw_seq ?_; refine hw_region (E := TryzE) Tryzok ?_
      refine rq rfl rfl rfl rfl rfl ?_; refine rg_nil ?_; show HW _ _ _ _ _; refine hw_ret ?_; refine ⟨.inr rfl, ?_⟩
      have he : appErr x.db c = 0 := by simp_all
      first | (rw [show pfS x c = { x with db := appD x.db c, now := x.now ++ [c] } by rw [pfS, if_neg (by simp [he]), if_pos (by assumption)]]; rw [he]; exact ⟨_, _, rfl, (by (repeat' apply And.intro) <;> first | trivial | exact Nat.le_of_ble_eq_true rfl), CoR.refl _, ⟨⟨_, rfl, ⟨CoH.refl _, CoH.refl _, CoH.refl _, CoH.refl _, congrArg (HV.ref 903) (by simp), trivial⟩⟩, ⟨_, rfl, CoO.refl _⟩, ⟨_, rfl, CoO.refl _⟩, ⟨_, rfl, (co_app _ (fun _ => rfl) rfl (lt1b (lt11 (CoP.refl _) (CoP.refl _) (CoP.refl _) (CoP.refl _) (CoP.refl _) (CoP.refl _) (CoP.refl _) (CoP.refl _) (CoP.refl _) (CoP.refl _) (CoP.refl _))))⟩, trivial⟩⟩) | (rw [show pfS x c = cmS { x with db := appD x.db c } [c] by rw [pfS, if_neg (by simp [he]), if_neg (by simp_all)]]; rw [he]; exact ⟨_, _, rfl, (by (repeat' apply And.intro) <;> first | trivial | exact Nat.le_of_ble_eq_true rfl), CoR.refl _, ⟨⟨_, rfl, CoO.refl _⟩, ⟨_, rfl, CoO.refl _⟩, ⟨_, rfl, CoO.refl _⟩, ⟨_, rfl, CoO.refl _⟩, trivial⟩⟩)
    · skip
      have h1 := r1
      refine hw_region (E := TryzE) Tryzok ?_; (iterate 2 refine rq rfl rfl rfl rfl rfl ?_); refine rm 4 rfl rfl rfl rfl rfl rfl ?_
      refine rg_fcall rfl rfl rfl rfl rfl rfl good56 ((c56a { x with db := appD x.db c } [c] h).swap 904 4) (CoHCL.refl _) ⟨⟨_, rfl, CoO.refl _⟩, ⟨_, rfl, CoO.refl _⟩, ⟨_, rfl, CoO.refl _⟩, ⟨_, rfl, CoO.refl _⟩, ⟨_, rfl, ⟨fun h => h, rfl, rfl, rfl, lt1b (lt11 (CoP.refl _) (CoP.refl _) (CoP.refl _) (CoP.refl _) (CoP.refl _) (CoP.refl _) (CoP.refl _) (CoP.refl _) (CoP.refl _) (CoP.refl _) (CoP.refl _))⟩⟩, trivial⟩ rfl rfl ?_
      refine rg_nil ?_; show HW _ _ _ _ _; refine hw_seq ?_; refine hw_region (E := TryzE) Tryzok ?_; refine rq rfl rfl rfl rfl rfl ?_; refine rg_nil ?_; show HW _ _ _ _ _; refine hw_ret ?_; refine ⟨.inr rfl, ?_⟩
      have he : appErr x.db c = 0 := by simp_all
      first | (rw [show pfS x c = { x with db := appD x.db c, now := x.now ++ [c] } by rw [pfS, if_neg (by simp [he]), if_pos (by assumption)]]; rw [he]; exact ⟨_, _, rfl, (by (repeat' apply And.intro) <;> first | trivial | exact Nat.le_of_ble_eq_true rfl), CoR.refl _, ⟨⟨_, rfl, ⟨CoH.refl _, CoH.refl _, CoH.refl _, CoH.refl _, congrArg (HV.ref 903) (by simp), trivial⟩⟩, ⟨_, rfl, CoO.refl _⟩, ⟨_, rfl, CoO.refl _⟩, ⟨_, rfl, (co_app _ (fun _ => rfl) rfl (lt1b (lt11 (CoP.refl _) (CoP.refl _) (CoP.refl _) (CoP.refl _) (CoP.refl _) (CoP.refl _) (CoP.refl _) (CoP.refl _) (CoP.refl _) (CoP.refl _) (CoP.refl _))))⟩, trivial⟩⟩) | (rw [show pfS x c = cmS { x with db := appD x.db c } [c] by rw [pfS, if_neg (by simp [he]), if_neg (by simp_all)]]; rw [he]; exact ⟨_, _, rfl, (by (repeat' apply And.intro) <;> first | trivial | exact Nat.le_of_ble_eq_true rfl), CoR.refl _, ⟨⟨_, rfl, CoO.refl _⟩, ⟨_, rfl, CoO.refl _⟩, ⟨_, rfl, CoO.refl _⟩, ⟨_, rfl, CoO.refl _⟩, trivial⟩⟩)
theorem good58 : goodFn Tryz.prog 58 := ⟨Tryz.f58, Tryz.func58, by kernel_rfl, by kernel_rfl⟩
theorem c58h (x : Str) (s : ByteArray) (id : Int) (hd : dbV x.db) : HFun Tryz.prog 58 [.one (.ptr 1000 0), .one (.p (.raw (.string s))), .one (.p (.raw (.int .i64 id)))] x.objs (.tup [(bfR x.db s id).pc.toH, .one (.p (.raw (.int .i64 (bfE x.db s id))))]) x.objs [1000] := by
  refine hfun_of (nt := 49) Tryzok Tryz.func58 rfl rfl (Nat.le_of_ble_eq_true rfl) rfl ?_; refine hw_seq ?_; refine hw_region (E := TryzE) Tryzok ?_; refine rm 0 rfl rfl rfl rfl rfl rfl ?_; refine rq rfl rfl rfl rfl rfl ?_
  refine rg_nil ?_; show HW _ _ _ _ _; refine hw_seq ?_; refine hw_region (E := TryzE) Tryzok ?_; (iterate 5 refine rq rfl rfl rfl rfl rfl ?_); refine rc rfl rfl rfl rfl rfl rfl good67 (c67 x.db s) (CoL.refl _) rfl rfl ?_
  refine rq rfl rfl rfl rfl rfl ?_; refine rg_nil ?_; show HW _ _ _ _ _; (iterate 2 refine hw_seq ?_); refine hw_region (E := TryzE) Tryzok ?_; (iterate 2 refine rq rfl rfl rfl rfl rfl ?_); refine rg_nil ?_; show HW _ _ _ _ _
  refine hw_cond _ rfl (fun r0 => ?_) (fun r0 => ?_)
  · skip
    have h0 := r0
    have h0 := of_decide_eq_true h0
    try simp only [Int.toNat_natCast] at h0
    refine hw_seq ?_; refine hw_region (E := TryzE) Tryzok ?_; refine rq rfl rfl rfl rfl rfl ?_; refine rs rfl rfl rfl rfl rfl ?_; refine rq rfl rfl rfl rfl rfl ?_; refine rg_nil ?_; show HW _ _ _ _ _; refine hw_ret ?_
    refine ⟨.inr rfl, ?_⟩
    have hb := bf4 (d := x.db) (s := s) (id := id) (.inl (by assumption))
    rw [hb.1, hb.2]
    exact ⟨_, _, rfl, (by (repeat' apply And.intro) <;> first | trivial | exact Nat.le_of_ble_eq_true rfl), ⟨⟨CoH.refl _, co_nil, trivial⟩, CoHC.refl _, trivial⟩, ⟨⟨_, rfl, CoO.refl _⟩, ⟨_, rfl, CoO.refl _⟩, ⟨_, rfl, CoO.refl _⟩, ⟨_, rfl, CoO.refl _⟩, trivial⟩⟩
  · skip
    have h0 := r0
    have h0 := of_decide_eq_false h0
    try simp only [Int.toNat_natCast] at h0
    have hix := h0
    have htb := tbl_at h0
    have hT : TOk (tblAt x.db s) := hd.at h0
    refine hw_skip ?_; show HW _ _ _ _ _; refine hw_seq ?_; refine hw_region (E := TryzE) Tryzok ?_; (iterate 9 refine rq rfl rfl rfl rfl rfl ?_)
    refine rc rfl rfl rfl rfl rfl rfl good68 (c68 (tblAt x.db s) id) (CoL.refl _) rfl rfl ?_; (iterate 5 refine rq rfl rfl rfl rfl rfl ?_); refine rg_nil ?_; show HW _ _ _ _ _; (iterate 2 refine hw_seq ?_)
    refine hw_region (E := TryzE) Tryzok ?_; (iterate 2 refine rq rfl rfl rfl rfl rfl ?_); refine rg_nil ?_; show HW _ _ _ _ _; refine hw_cond _ rfl (fun r1 => ?_) (fun r1 => ?_)
    · skip
      have h1 := r1
      have h1 := not_t h1
      have hfd : ¬ 0 ≤ rowIx (tblAt x.db s).rows id := of_decide_eq_false h1
      refine hw_seq ?_; refine hw_region (E := TryzE) Tryzok ?_; refine rq rfl rfl rfl rfl rfl ?_; refine rs rfl rfl rfl rfl rfl ?_; refine rq rfl rfl rfl rfl rfl ?_; refine rg_nil ?_; show HW _ _ _ _ _; refine hw_ret ?_
      refine ⟨.inr rfl, ?_⟩
      have hb := bf4 (d := x.db) (s := s) (id := id) (.inr hfd)
      rw [hb.1, hb.2]
      exact ⟨_, _, rfl, (by (repeat' apply And.intro) <;> first | trivial | exact Nat.le_of_ble_eq_true rfl), ⟨⟨CoH.refl _, co_nil, trivial⟩, CoHC.refl _, trivial⟩, ⟨⟨_, rfl, CoO.refl _⟩, ⟨_, rfl, CoO.refl _⟩, ⟨_, rfl, CoO.refl _⟩, ⟨_, rfl, CoO.refl _⟩, trivial⟩⟩
    · skip
      have h1 := r1
      have h1 := not_f h1
      have hfd : 0 ≤ rowIx (tblAt x.db s).rows id := of_decide_eq_true h1
      have hra := row_at hfd
      have hra2 : max (rowIx (tblAt x.db s).rows id) 0 < ((x.db.getD (tblIx x.db s).toNat default).rows.length : Int) := (by show _ < ((tblAt x.db s).rows.length : Int); omega)
      refine hw_skip ?_; show HW _ _ _ _ _; refine hw_seq ?_; refine hw_region (E := TryzE) Tryzok ?_; (iterate 12 refine rq rfl rfl rfl rfl rfl ?_)
      refine rc rfl rfl rfl rfl rfl rfl good52 (c52 ((tblAt x.db s).rows.getD (max (rowIx (tblAt x.db s).rows id) 0).toNat default) (hT.ok.2.2 _ hra).1) (CoL.refl _) rfl rfl ?_; refine rs rfl rfl rfl rfl rfl ?_
      refine rq rfl rfl rfl rfl rfl ?_; refine rg_nil ?_; show HW _ _ _ _ _; refine hw_ret ?_; refine ⟨.inr rfl, ?_⟩
      have hb := bf0 (d := x.db) (s := s) (id := id) hix hfd
      rw [hb.1, hb.2]
      exact ⟨_, _, rfl, (by (repeat' apply And.intro) <;> first | trivial | exact Nat.le_of_ble_eq_true rfl), CoR.refl _, ⟨⟨_, rfl, CoO.refl _⟩, ⟨_, rfl, CoO.refl _⟩, ⟨_, rfl, CoO.refl _⟩, ⟨_, rfl, CoO.refl _⟩, trivial⟩⟩
end Go.Hx
end
section
namespace Go.Hx
open Go.Proofs
set_option maxRecDepth 100000
theorem good31 : goodFn Tryz.prog 31 := ⟨Tryz.f31, Tryz.func31, by kernel_rfl, by kernel_rfl⟩
theorem c31h (x : Str) (t : Tbl) (hx : SOk x) (ht : t.ok) (hck : (chg1 t).ok) : HFun Tryz.prog 31 [.one (.ptr 1000 0), t.pc.toH] x.objs (.v (.one (.p (.raw (.int .i64 (appErr x.db (chg1 t))))))) (pfS x (chg1 t)).objs [1000] := by
  refine hfun_of (nt := 12) Tryzok Tryz.func31 rfl rfl (Nat.le_of_ble_eq_true rfl) rfl ?_; refine hw_seq ?_; refine hw_region (E := TryzE) Tryzok ?_; refine rm 0 rfl rfl rfl rfl rfl rfl ?_; refine rq rfl rfl rfl rfl rfl ?_
  refine rg_nil ?_; show HW _ _ _ _ _; refine hw_seq ?_; refine hw_draw (E := TryzE) Tryzok Tryzmixed [0, 1, 2, 3, 4, 5, 6, 7] ?_; (iterate 4 refine rq rfl rfl rfl rfl rfl ?_)
  refine rc rfl rfl rfl rfl rfl rfl good51 (c51 t ht) (CoL.refl _) rfl rfl ?_; refine rq rfl rfl rfl rfl rfl ?_
  refine rg_fcall rfl rfl rfl rfl rfl rfl good57 (c57h x (chg1 t) hx.db hck hx.dn hx.nw) (⟨CoHC.refl _, ⟨CoH.refl _, CoH.refl _, CoH.refl _, CoH.refl _, CoH.refl _, CoH.refl _, co_nil, CoH.refl _, CoH.refl _, CoH.refl _, CoH.refl _, trivial⟩, trivial⟩) ⟨⟨_, rfl, CoO.refl _⟩, ⟨_, rfl, CoO.refl _⟩, ⟨_, rfl, CoO.refl _⟩, ⟨_, rfl, CoO.refl _⟩, trivial⟩ rfl rfl ?_
  refine rq rfl rfl rfl rfl rfl ?_; refine rg_nil ?_; refine ⟨by kernel_rfl, ?_⟩; show HW _ _ _ _ _; refine hw_ret ?_; refine ⟨.inr rfl, ?_⟩
  exact ⟨_, _, rfl, (by (repeat' apply And.intro) <;> first | trivial | exact Nat.le_of_ble_eq_true rfl), CoR.refl _, ⟨⟨_, rfl, CoO.refl _⟩, ⟨_, rfl, CoO.refl _⟩, ⟨_, rfl, CoO.refl _⟩, ⟨_, rfl, CoO.refl _⟩, trivial⟩⟩
theorem good34 : goodFn Tryz.prog 34 := ⟨Tryz.f34, Tryz.func34, by kernel_rfl, by kernel_rfl⟩
theorem c34h (x : Str) (s : ByteArray) (r : Row) (hx : SOk x) (hr : r.vals.length ≤ 68719476736) (hck : (chgR 2 s r).ok) : HFun Tryz.prog 34 [.one (.ptr 1000 0), .one (.p (.raw (.string s))), r.pc.toH] x.objs (.v (.one (.p (.raw (.int .i64 (appErr x.db (chgR 2 s r))))))) (pfS x (chgR 2 s r)).objs [1000] := by
  refine hfun_of (nt := 13) Tryzok Tryz.func34 rfl rfl (Nat.le_of_ble_eq_true rfl) rfl ?_; refine hw_seq ?_; refine hw_region (E := TryzE) Tryzok ?_; refine rm 0 rfl rfl rfl rfl rfl rfl ?_; refine rq rfl rfl rfl rfl rfl ?_
  refine rg_nil ?_; show HW _ _ _ _ _; refine hw_seq ?_; refine hw_region (E := TryzE) Tryzok ?_; (iterate 3 refine rq rfl rfl rfl rfl rfl ?_); refine rc rfl rfl rfl rfl rfl rfl good52 (c52 r hr) (CoL.refl _) rfl rfl ?_
  refine rq rfl rfl rfl rfl rfl ?_
  refine rg_fcall rfl rfl rfl rfl rfl rfl good57 (c57h x (chgR 2 s r) hx.db hck hx.dn hx.nw) (⟨CoHC.refl _, ⟨CoH.refl _, CoH.refl _, CoH.refl _, co_nil, co_nil, CoH.refl _, CoH.refl _, CoH.refl _, CoH.refl _, CoH.refl _, CoH.refl _, trivial⟩, trivial⟩) ⟨⟨_, rfl, CoO.refl _⟩, ⟨_, rfl, CoO.refl _⟩, ⟨_, rfl, CoO.refl _⟩, ⟨_, rfl, CoO.refl _⟩, trivial⟩ rfl rfl ?_
  refine rq rfl rfl rfl rfl rfl ?_; refine rg_nil ?_; show HW _ _ _ _ _; refine hw_ret ?_; refine ⟨.inr rfl, ?_⟩
  exact ⟨_, _, rfl, (by (repeat' apply And.intro) <;> first | trivial | exact Nat.le_of_ble_eq_true rfl), CoR.refl _, ⟨⟨_, rfl, CoO.refl _⟩, ⟨_, rfl, CoO.refl _⟩, ⟨_, rfl, CoO.refl _⟩, ⟨_, rfl, CoO.refl _⟩, trivial⟩⟩
theorem good39 : goodFn Tryz.prog 39 := ⟨Tryz.f39, Tryz.func39, by kernel_rfl, by kernel_rfl⟩
theorem c39h (x : Str) (s : ByteArray) (id : Int) (hx : SOk x) (hck : (chgR 3 s (bfR x.db s id)).ok) : HFun Tryz.prog 39 [.one (.ptr 1000 0), .one (.p (.raw (.string s))), .one (.p (.raw (.int .i64 (id))))] x.objs (.v (.one (.p (.raw (.int .i64 (dlE x s id)))))) (dlS x s id).objs [1000] := by
  refine hfun_of (nt := 24) Tryzok Tryz.func39 rfl rfl (Nat.le_of_ble_eq_true rfl) rfl ?_; refine hw_seq ?_; refine hw_region (E := TryzE) Tryzok ?_; refine rq rfl rfl rfl rfl rfl ?_; refine rg_nil ?_; show HW _ _ _ _ _
  refine hw_seq ?_; refine hw_region (E := TryzE) Tryzok ?_; (iterate 3 refine rq rfl rfl rfl rfl rfl ?_)
  refine rg_fcall rfl rfl rfl rfl rfl rfl good58 (c58h x s id hx.db) (CoHCL.refl _) ⟨⟨_, rfl, CoO.refl _⟩, ⟨_, rfl, CoO.refl _⟩, ⟨_, rfl, CoO.refl _⟩, ⟨_, rfl, CoO.refl _⟩, trivial⟩ rfl rfl ?_
  (iterate 3 refine rq rfl rfl rfl rfl rfl ?_); refine rm 0 rfl rfl rfl rfl rfl rfl ?_; refine rs rfl rfl rfl rfl rfl ?_; refine rq rfl rfl rfl rfl rfl ?_; refine rg_nil ?_; show HW _ _ _ _ _; (iterate 2 refine hw_seq ?_)
  refine hw_region (E := TryzE) Tryzok ?_; (iterate 2 refine rq rfl rfl rfl rfl rfl ?_); refine rg_nil ?_; show HW _ _ _ _ _; refine hw_cond _ rfl (fun r0 => ?_) (fun r0 => ?_)
  · skip
    have h0 := r0
    have h0 := of_decide_eq_false (not_t h0)
    try simp only [Int.toNat_natCast] at h0
    refine hw_seq ?_; refine hw_region (E := TryzE) Tryzok ?_; (iterate 2 refine rq rfl rfl rfl rfl rfl ?_); refine rg_nil ?_; show HW _ _ _ _ _; refine hw_ret ?_; refine ⟨.inr rfl, ?_⟩
    rw [show dlE x s id = bfE x.db s id from if_pos (by simp_all), show dlS x s id = x from if_pos (by simp_all)]
    exact ⟨_, _, rfl, (by (repeat' apply And.intro) <;> first | trivial | exact Nat.le_of_ble_eq_true rfl), CoR.refl _, ⟨⟨_, rfl, CoO.refl _⟩, ⟨_, rfl, CoO.refl _⟩, ⟨_, rfl, CoO.refl _⟩, ⟨_, rfl, CoO.refl _⟩, trivial⟩⟩
  · skip
    have h0 := r0
    have h0 := of_decide_eq_true (not_f h0)
    try simp only [Int.toNat_natCast] at h0
    refine hw_skip ?_; show HW _ _ _ _ _; refine hw_seq ?_; refine hw_region (E := TryzE) Tryzok ?_; (iterate 4 refine rq rfl rfl rfl rfl rfl ?_)
    refine rg_fcall rfl rfl rfl rfl rfl rfl good57 (c57h x (chgR 3 s (bfR x.db s id)) hx.db hck hx.dn hx.nw) (⟨CoHC.refl _, ⟨CoH.refl _, CoH.refl _, CoH.refl _, co_nil, co_nil, CoH.refl _, CoH.refl _, CoH.refl _, CoH.refl _, CoH.refl _, CoH.refl _, trivial⟩, trivial⟩) ⟨⟨_, rfl, CoO.refl _⟩, ⟨_, rfl, CoO.refl _⟩, ⟨_, rfl, CoO.refl _⟩, ⟨_, rfl, CoO.refl _⟩, trivial⟩ rfl rfl ?_
    refine rq rfl rfl rfl rfl rfl ?_; refine rg_nil ?_; show HW _ _ _ _ _; refine hw_ret ?_; refine ⟨.inr rfl, ?_⟩
    rw [show dlE x s id = appErr x.db (chgR 3 s (bfR x.db s id)) from if_neg (by simp_all), show dlS x s id = pfS x (chgR 3 s (bfR x.db s id)) from if_neg (by simp_all)]
    exact ⟨_, _, rfl, (by (repeat' apply And.intro) <;> first | trivial | exact Nat.le_of_ble_eq_true rfl), CoR.refl _, ⟨⟨_, rfl, CoO.refl _⟩, ⟨_, rfl, CoO.refl _⟩, ⟨_, rfl, CoO.refl _⟩, ⟨_, rfl, CoO.refl _⟩, trivial⟩⟩
theorem good28 : goodFn Tryz.prog 28 := ⟨Tryz.f28, Tryz.func28, by kernel_rfl, by kernel_rfl⟩
theorem c28h (x : Str) (hx : SOk x) : HFun Tryz.prog 28 [.one (.ptr 1000 0)] x.objs (.v (.one (.p (.raw (.int .i64 (enE x)))))) (cmS (enS x) (enL x)).objs [1000] := by
  refine hfun_of (nt := 14) Tryzok Tryz.func28 rfl rfl (Nat.le_of_ble_eq_true rfl) rfl ?_
  have hdn : (enS x).done.length ≤ 68719476736 := by unfold enS; split <;> exact hx.dn
  refine hw_seq ?_; refine hw_region (E := TryzE) Tryzok ?_; refine rq rfl rfl rfl rfl rfl ?_; refine rg_nil ?_; show HW _ _ _ _ _; refine hw_seq ?_; refine hw_region (E := TryzE) Tryzok ?_; refine rq rfl rfl rfl rfl rfl ?_
  refine rg_fcall rfl rfl rfl rfl rfl rfl good55 (c55h x) (CoHCL.refl _) ⟨⟨_, rfl, CoO.refl _⟩, ⟨_, rfl, CoO.refl _⟩, ⟨_, rfl, CoO.refl _⟩, ⟨_, rfl, CoO.refl _⟩, trivial⟩ rfl rfl ?_; (iterate 5 refine rq rfl rfl rfl rfl rfl ?_)
  refine rg_nil ?_; show HW _ _ _ _ _; refine hw_seq ?_; refine hw_region (E := TryzE) Tryzok ?_; (iterate 2 refine rq rfl rfl rfl rfl rfl ?_)
  refine rg_fcall rfl rfl rfl rfl rfl rfl good56 (c56h (enS x) (enL x) hdn) (CoHCL.refl _) ⟨⟨_, rfl, CoO.refl _⟩, ⟨_, rfl, CoO.refl _⟩, ⟨_, rfl, CoO.refl _⟩, ⟨_, rfl, CoO.refl _⟩, trivial⟩ rfl rfl ?_; refine rg_nil ?_
  show HW _ _ _ _ _; refine hw_seq ?_; refine hw_region (E := TryzE) Tryzok ?_; (iterate 2 refine rq rfl rfl rfl rfl rfl ?_); refine rg_nil ?_; show HW _ _ _ _ _; refine hw_ret ?_; refine ⟨.inr rfl, ?_⟩
  exact ⟨_, _, rfl, (by (repeat' apply And.intro) <;> first | trivial | exact Nat.le_of_ble_eq_true rfl), CoR.refl _, ⟨⟨_, rfl, CoO.refl _⟩, ⟨_, rfl, CoO.refl _⟩, ⟨_, rfl, CoO.refl _⟩, ⟨_, rfl, CoO.refl _⟩, trivial⟩⟩
end Go.Hx
end
