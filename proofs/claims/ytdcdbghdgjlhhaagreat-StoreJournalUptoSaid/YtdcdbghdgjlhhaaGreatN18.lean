/- A part of the proof: lemmas for the theorem of this claim, merged by a program of ours out of Sp3, W6. -/
import Derived.Test.YtdcdbghdgjlhhaaGreatN13
import Derived.Test.YtdcdbghdgjlhhaaGreatN17
set_option linter.all false
section
namespace Go.Hx
abbrev T0 : Tbl := ⟨emp, [], []⟩
def insR (r : Row) : List Row → List Row
  | [] => [r]
  | x :: xs => if r.id < x.id then r :: x :: xs else x :: insR r xs
def insErr (t : Tbl) (r : Row) : Int :=
  if tblErr t ≠ 0 then tblErr t else if r.vals.length ≠ t.attrs.length then 6 else if r.id ≤ 0 ∨ r.vals.all okVal = false then 1
  else if 0 ≤ rowIx t.rows r.id then 5 else if 1000 ≤ t.rows.length then 3 else 0
def insT (t : Tbl) (r : Row) : Tbl := if insErr t r = 0 then { t with rows := insR r t.rows } else T0
def delErr (t : Tbl) (id : Int) : Int := if tblErr t ≠ 0 then tblErr t else if 0 ≤ rowIx t.rows id then 0 else 4
def delT (t : Tbl) (id : Int) : Tbl := if delErr t id = 0 then { t with rows := t.rows.eraseIdx (rowIx t.rows id).toNat } else T0
def chErr (t : Tbl) (id attr : Int) (v : Val) : Int :=
  if tblErr t ≠ 0 then tblErr t else if ¬ 0 ≤ rowIx t.rows id then 4 else if attr < 0 ∨ (t.attrs.length : Int) ≤ attr then 6 else if okVal v = false then 1 else 0
def setC (l : List Row) (i k : Nat) (v : Val) : List Row := l.set i { l.getD i default with vals := (l.getD i default).vals.set k v }
def chT (t : Tbl) (id attr : Int) (v : Val) : Tbl := if chErr t id attr v = 0 then { t with rows := setC t.rows (rowIx t.rows id).toNat attr.toNat v } else T0
def chgErr (t : Tbl) (c : Chg) : Int :=
  if c.kind = 2 then insErr t c.row
  else if ¬ 0 ≤ rowIx t.rows c.row.id then 4
  else if ¬ (t.rows.getD (max (rowIx t.rows c.row.id) 0).toNat default).vals = c.row.vals then 16
  else if c.kind = 3 then delErr t c.row.id
  else chErr t c.row.id c.attr c.value
def chgT (t : Tbl) (c : Chg) : Tbl := if c.kind = 2 then insT t c.row else if c.kind = 3 then delT t c.row.id else chT t c.row.id c.attr c.value
def tblAt (d : DB) (s : ByteArray) : Tbl := d.getD (tblIx d s).toNat default
def appErr (d : DB) (c : Chg) : Int :=
  if c.kind = 1 then (if c.name ≠ c.table.name then 1 else crErr d c.table)
  else if c.kind < 1 ∨ 4 < c.kind then 1
  else if tblIx d c.name < 0 then 4
  else chgErr (tblAt d c.name) c
def appD (d : DB) (c : Chg) : DB :=
  if appErr d c ≠ 0 then d
  else if c.kind = 1 then d ++ [c.table]
  else d.set (tblIx d c.name).toNat (chgT (tblAt d c.name) c)
theorem aE1 {d : DB} {c : Chg} (h : c.kind = 1) (h2 : ¬ c.name = c.table.name) : appErr d c = 1 := by rw [appErr, if_pos h, if_pos h2]
theorem aE2 {d : DB} {c : Chg} (h : c.kind = 1) (h2 : c.name = c.table.name) : appErr d c = crErr d c.table := by rw [appErr, if_pos h, if_neg (by simp [h2])]
theorem aE3 {d : DB} {c : Chg} (h : c.kind < 1 ∨ 4 < c.kind) : appErr d c = 1 := by rw [appErr, if_neg (by omega), if_pos h]
theorem aE4 {d : DB} {c : Chg} (h : 2 ≤ c.kind ∧ c.kind ≤ 4) (h2 : tblIx d c.name < 0) : appErr d c = 4 := by rw [appErr, if_neg (by omega), if_neg (by omega), if_pos h2]
theorem aE5 {d : DB} {c : Chg} (h : 2 ≤ c.kind ∧ c.kind ≤ 4) (h2 : ¬ tblIx d c.name < 0) : appErr d c = chgErr (tblAt d c.name) c := by rw [appErr, if_neg (by omega), if_neg (by omega), if_neg h2]
theorem cE2 {t : Tbl} {c : Chg} (h : c.kind = 2) : chgErr t c = insErr t c.row := by rw [chgErr, if_pos h]
theorem cE4 {t : Tbl} {c : Chg} (h : ¬ c.kind = 2) (h2 : ¬ 0 ≤ rowIx t.rows c.row.id) : chgErr t c = 4 := by rw [chgErr, if_neg h, if_pos h2]
theorem cE16 {t : Tbl} {c : Chg} (h : ¬ c.kind = 2) (h2 : 0 ≤ rowIx t.rows c.row.id) (h3 : ¬ (t.rows.getD (max (rowIx t.rows c.row.id) 0).toNat default).vals = c.row.vals) : chgErr t c = 16 := by rw [chgErr, if_neg h, if_neg (by simpa using h2), if_pos h3]
theorem cE3 {t : Tbl} {c : Chg} (h : c.kind = 3) (h2 : 0 ≤ rowIx t.rows c.row.id) (h3 : (t.rows.getD (max (rowIx t.rows c.row.id) 0).toNat default).vals = c.row.vals) : chgErr t c = delErr t c.row.id := by rw [chgErr, if_neg (by omega), if_neg (by simpa using h2), if_neg (by simpa using h3), if_pos h]
theorem cEc {t : Tbl} {c : Chg} (h : ¬ c.kind = 2) (h0 : ¬ c.kind = 3) (h2 : 0 ≤ rowIx t.rows c.row.id) (h3 : (t.rows.getD (max (rowIx t.rows c.row.id) 0).toNat default).vals = c.row.vals) : chgErr t c = chErr t c.row.id c.attr c.value := by rw [chgErr, if_neg h, if_neg (by simpa using h2), if_neg (by simpa using h3), if_neg h0]
theorem aD_err {d : DB} {c : Chg} {e : Int} (h : appErr d c = e) (he : e ≠ 0) : appD d c = d := by rw [appD, if_pos (by rw [h]; exact he)]
theorem aD1 {d : DB} {c : Chg} (h : appErr d c = 0) (h1 : c.kind = 1) : appD d c = d ++ [c.table] := by rw [appD, if_neg (by simp [h]), if_pos h1]
theorem aD2 {d : DB} {c : Chg} {u : Tbl} (h : appErr d c = 0) (h1 : ¬ c.kind = 1) (hu : chgT (tblAt d c.name) c = u) : appD d c = d.set (tblIx d c.name).toNat u := by rw [appD, if_neg (by simp [h]), if_neg h1, hu]
theorem cT2 {t : Tbl} {c : Chg} (h : c.kind = 2) : chgT t c = insT t c.row := by rw [chgT, if_pos h]
theorem cT3 {t : Tbl} {c : Chg} (h : c.kind = 3) : chgT t c = delT t c.row.id := by rw [chgT, if_neg (by omega), if_pos h]
theorem cT4 {t : Tbl} {c : Chg} (h : ¬ c.kind = 2) (h2 : ¬ c.kind = 3) : chgT t c = chT t c.row.id c.attr c.value := by rw [chgT, if_neg h, if_neg h2]
def dbV (d : DB) : Prop := d.length ≤ 50 ∧ ∀ j, j < d.length → tblErr (d.getD j default) = 0
def replE (d : DB) : List Chg → Int
  | [] => 0
  | c :: cs => if appErr d c ≠ 0 then appErr d c else replE (appD d c) cs
def replD (d : DB) : List Chg → DB
  | [] => d
  | c :: cs => if appErr d c ≠ 0 then [] else replD (appD d c) cs
def comS (s : Stt) (l : List Chg) : Stt := if l.length = 0 then s else ⟨s.done ++ [l], [], false, []⟩
def putS (s : Stt) (c : Chg) : Stt := if s.opn = true then { s with now := s.now ++ [c] } else comS s [c]
def fewOp (x : Opn) : Bool := decide (x.vals.length ≤ 20) && decide (x.t.rows.length ≤ 6) && x.t.rows.all fun r => decide (r.length ≤ 20)
def few (l : List Opn) (most : Int) : Bool := l.all fewOp && decide ((l.length : Int) ≤ most)
theorem few_f {l : List Opn} {most : Int} {i : Nat} (hi : i < l.length) (h : fewOp (l.getD i default) = false) : few l most = false := by
  have := all_f (p := fewOp) hi h
  simp [few, this]
end Go.Hx
end
section
namespace Go.Hx
open Go.Proofs
set_option maxRecDepth 100000
theorem good73 : goodFn Tryz.prog 73 := ⟨Tryz.f73, Tryz.func73, by kernel_rfl, by kernel_rfl⟩
theorem c73 (d : DB) (k : Nat) (t : Tbl) (hd : d.length ≤ 68719476736) : HPure Tryz.prog 73 [dbpc d, pI k, t.pc] (prOf [dbpc (d.set k t)]) := by
  refine hpure_of (nt := 36) Tryzok Tryz.func73 rfl rfl (Nat.le_of_ble_eq_true rfl) ?_; refine hw_seq ?_; refine hw_region (E := TryzE) Tryzok ?_; refine rm 0 rfl rfl rfl rfl rfl rfl ?_; refine rm 1 rfl rfl rfl rfl rfl rfl ?_
  refine rm 2 rfl rfl rfl rfl rfl rfl ?_; refine rg_nil ?_; show HW _ _ _ _ _; refine hw_seq ?_; refine hw_region (E := TryzE) Tryzok ?_; refine rm 3 rfl rfl rfl rfl rfl rfl ?_; refine rg_nil ?_; show HW _ _ _ _ _
  (iterate 2 refine hw_seq ?_); refine hw_region (E := TryzE) Tryzok ?_; refine rq rfl rfl rfl rfl rfl ?_; refine rg_nil ?_; show HW _ _ _ _ _; refine hw_block ?_
  refine hw_adopt_cell 3 0 9 true 3 42 (lf Tbl.c (d.set k t)) (by decide) rfl rfl (CoP.sl rfl (.inr rfl) (fun h => h) (fun i j hi _ => absurd hi (Nat.not_lt_zero i))) (.inr rfl) rfl rfl ?_
  refine hw_loopK (ι := Nat) ⟨[(1, some _), (3, some _), (5, some _), (6, some _), (7, some _)], [(0, some _), (1, some _), (2, some _)]⟩ ⟨⟨⟨_, rfl, CoR.refl _⟩, ⟨_, rfl, CoR.refl _⟩, ⟨_, rfl, CoR.refl _⟩, ⟨_, rfl, CoR.refl _⟩, ⟨_, rfl, CoR.refl _⟩, trivial⟩, ⟨⟨_, rfl, CoO.refl _⟩, ⟨_, rfl, CoO.refl _⟩, ⟨_, rfl, CoO.refl _⟩, trivial⟩⟩ (fun i => ⟨[(8, some (vI i))], [(3, some (.box [.ref 9 i])), (9, some (.arr true 3 42 i (lf Tbl.c (d.set k t))))]⟩) (fun i => i ≤ d.length) (fun i => d.length - i) (0) (Nat.zero_le _) ⟨⟨⟨_, rfl, (by first | exact CoR.refl _ | exact coi (by omega) | exact cob (by simp_all))⟩, trivial⟩, ⟨⟨_, rfl, CoO.refl _⟩, ⟨_, rfl, CoO.refl _⟩, trivial⟩⟩ ?_
  rintro i hi
  (iterate 2 refine hw_seq ?_); refine hw_region (E := TryzE) Tryzok ?_; (iterate 5 refine rq rfl rfl rfl rfl rfl ?_); refine rg_nil ?_; show HW _ _ _ _ _; refine hw_cond _ rfl (fun r0 => ?_) (fun r0 => ?_)
  · skip
    have h0 := r0
    have h0 := of_decide_eq_true h0
    try simp only [Int.toNat_natCast] at h0
    refine hw_skip ?_; show HW _ _ _ _ _; refine hw_seq ?_; refine hw_block ?_; refine hw_seq ?_; refine hw_region (E := TryzE) Tryzok ?_; (iterate 3 refine rq rfl rfl rfl rfl rfl ?_); refine rg_nil ?_; show HW _ _ _ _ _
    refine hw_cond _ rfl (fun r1 => ?_) (fun r1 => ?_)
    · skip
      have h1 := r1
      have h1 := of_decide_eq_true h1
      try simp only [Int.toNat_natCast] at h1
      refine hw_region (E := TryzE) Tryzok ?_; (iterate 3 refine rq rfl rfl rfl rfl rfl ?_); refine rm 4 rfl rfl rfl rfl rfl rfl ?_; refine ra 5 true rfl rfl rfl rfl rfl rfl ?_; refine rq rfl rfl rfl rfl rfl ?_
      refine rs rfl rfl rfl rfl rfl ?_; refine rg_nil ?_; show HW _ _ _ _ _; refine hw_region (E := TryzE) Tryzok ?_; (iterate 3 refine rq rfl rfl rfl rfl rfl ?_); refine rg_nil ?_; refine ⟨i + 1, ?_, ?_, ?_⟩
      · show i + 1 ≤ _
        omega
      · first | omega | (dsimp only; omega)
      · exact ⟨⟨⟨_, rfl, (by first | exact CoR.refl _ | exact coi (by omega) | exact cob (by simp_all))⟩, ⟨_, rfl, CoR.refl _⟩, ⟨_, rfl, CoR.refl _⟩, ⟨_, rfl, CoR.refl _⟩, ⟨_, rfl, CoR.refl _⟩, ⟨_, rfl, CoR.refl _⟩, trivial⟩, ⟨⟨_, rfl, CoO.refl _⟩, ⟨_, rfl, (co_push (fun h => h) (by first | (intro j hj; rw [lf_set_eq (by omega) (by omega)]; revert j; exact lt3 (CoP.refl _) (CoP.refl _) (CoP.refl _)) | (intro j hj; rw [lf_set_ne (by omega)]; revert j; exact lt3 (CoP.refl _) (CoP.refl _) (CoP.refl _))))⟩, ⟨_, rfl, CoO.refl _⟩, ⟨_, rfl, CoO.refl _⟩, ⟨_, rfl, CoO.refl _⟩, trivial⟩⟩
    · skip
      have h1 := r1
      have h1 := of_decide_eq_false h1
      try simp only [Int.toNat_natCast] at h1
      refine hw_draw (E := TryzE) Tryzok Tryzmixed [0, 1, 2, 3, 4, 5, 6, 7, 8, 9, 10] ?_; (iterate 7 refine rq rfl rfl rfl rfl rfl ?_); refine rm 6 rfl rfl rfl rfl rfl rfl ?_; refine ra 7 true rfl rfl rfl rfl rfl rfl ?_
      refine rq rfl rfl rfl rfl rfl ?_; refine rs rfl rfl rfl rfl rfl ?_; refine rg_nil ?_; refine ⟨by kernel_rfl, ?_⟩; show HW _ _ _ _ _; refine hw_region (E := TryzE) Tryzok ?_; (iterate 3 refine rq rfl rfl rfl rfl rfl ?_)
      refine rg_nil ?_; refine ⟨i + 1, ?_, ?_, ?_⟩
      · show i + 1 ≤ _
        omega
      · first | omega | (dsimp only; omega)
      · exact ⟨⟨⟨_, rfl, (by first | exact CoR.refl _ | exact coi (by omega) | exact cob (by simp_all))⟩, ⟨_, rfl, CoR.refl _⟩, ⟨_, rfl, CoR.refl _⟩, ⟨_, rfl, CoR.refl _⟩, ⟨_, rfl, CoR.refl _⟩, ⟨_, rfl, CoR.refl _⟩, trivial⟩, ⟨⟨_, rfl, CoO.refl _⟩, ⟨_, rfl, (co_push (fun h => h) (by first | (intro j hj; rw [lf_set_eq (by omega) (by omega)]; revert j; exact lt3 (CoP.refl _) (CoP.refl _) (CoP.refl _)) | (intro j hj; rw [lf_set_ne (by omega)]; revert j; exact lt3 (CoP.refl _) (CoP.refl _) (CoP.refl _))))⟩, ⟨_, rfl, CoO.refl _⟩, ⟨_, rfl, CoO.refl _⟩, ⟨_, rfl, CoO.refl _⟩, trivial⟩⟩
  · skip
    have h0 := r0
    have h0 := of_decide_eq_false h0
    try simp only [Int.toNat_natCast] at h0
    obtain rfl : i = d.length := by omega
    refine hw_exit ?_; show HW _ _ _ _ _; refine hw_seq ?_; refine hw_region (E := TryzE) Tryzok ?_; refine rq rfl rfl rfl rfl rfl ?_; refine rs rfl rfl rfl rfl rfl ?_; refine rg_nil ?_; show HW _ _ _ _ _; refine hw_ret ?_
    refine ⟨.inr rfl, ?_⟩
    exact ⟨_, _, _, _, rfl, (by (repeat' apply And.intro) <;> first | trivial | exact Nat.le_of_ble_eq_true rfl | rfl), rfl, (by (repeat' apply And.intro) <;> first | trivial | exact Nat.le_of_ble_eq_true rfl | rfl), ⟨CoC.agg ⟨CoP.sl (by exact List.length_set) (.inl rfl) (fun h => h) (fun _ _ _ _ => CoP.refl _), trivial⟩, trivial⟩⟩
theorem good12 : goodFn Tryz.prog 12 := ⟨Tryz.f12, Tryz.func12, by kernel_rfl, by kernel_rfl⟩
theorem c12h (s : Stt) (h : s.done.flatten.length ≤ 68719476736) : HFun Tryz.prog 12 [s.pc.toH] [] (.v (.one (.ref 9 s.done.flatten.length))) [(9, .arr true 11 49 s.done.flatten.length (lf Chg.c s.done.flatten))] [] := by
  refine hfun_of (nt := 20) Tryzok Tryz.func12 rfl rfl (Nat.le_of_ble_eq_true rfl) rfl ?_; refine hw_seq ?_; refine hw_region (E := TryzE) Tryzok ?_; refine rm 0 rfl rfl rfl rfl rfl rfl ?_; refine rq rfl rfl rfl rfl rfl ?_
  refine rg_nil ?_; show HW _ _ _ _ _; refine hw_seq ?_; refine hw_region (E := TryzE) Tryzok ?_; refine rq rfl rfl rfl rfl rfl ?_; refine rg_nil ?_; show HW _ _ _ _ _; (iterate 2 refine hw_seq ?_)
  refine hw_bo 0 0 rfl rfl (fun hn => ?_); refine hw_region (E := TryzE) Tryzok ?_; refine rq rfl rfl rfl rfl rfl ?_; refine rg_nil ?_; show HW _ _ _ _ _; refine hw_block ?_
  refine hw_adopt 3 9 true 11 49 (lf Chg.c []) (by decide) rfl (CoP.sl rfl (.inr rfl) (fun h => h) (fun i j hi _ => absurd hi (Nat.not_lt_zero i))) (.inr rfl) rfl ?_
  refine hw_loopK (ι := Nat) ⟨[(1, some _)], [(0, some _)]⟩ ⟨⟨⟨_, rfl, CoR.refl _⟩, trivial⟩, ⟨⟨_, rfl, CoO.refl _⟩, trivial⟩⟩ (fun i => ⟨[(3, some (.v (.one (.ref 9 (s.done.take i).flatten.length)))), (4, some (vI i))], [(9, some (.arr true 11 49 (s.done.take i).flatten.length (lf Chg.c (s.done.take i).flatten)))]⟩) (fun i => i ≤ s.done.length) (fun i => s.done.length - i) (0) (Nat.zero_le _) ⟨⟨⟨_, rfl, (by first | exact CoR.refl _ | exact coi (by omega) | exact cob (by simp_all))⟩, ⟨_, rfl, (by first | exact CoR.refl _ | exact coi (by omega) | exact cob (by simp_all))⟩, trivial⟩, ⟨⟨_, rfl, CoO.refl _⟩, trivial⟩⟩ ?_
  rintro i hi
  (iterate 2 refine hw_seq ?_); refine hw_region (E := TryzE) Tryzok ?_; (iterate 5 refine rq rfl rfl rfl rfl rfl ?_); refine rg_nil ?_; show HW _ _ _ _ _; refine hw_cond _ rfl (fun r0 => ?_) (fun r0 => ?_)
  · skip
    have h0 := r0
    have h0 := of_decide_eq_true h0
    try simp only [Int.toNat_natCast] at h0
    refine hw_skip ?_; show HW _ _ _ _ _; refine hw_seq ?_; refine hw_block ?_
    have hfl := flat_take_le s.done i (by omega)
    refine hw_region (E := TryzE) Tryzok ?_; (iterate 6 refine rq rfl rfl rfl rfl rfl ?_); refine ra 1 true rfl rfl rfl rfl rfl rfl ?_; refine rq rfl rfl rfl rfl rfl ?_; refine rg_nil ?_; show HW _ _ _ _ _
    refine hw_region (E := TryzE) Tryzok ?_; (iterate 3 refine rq rfl rfl rfl rfl rfl ?_); refine rg_nil ?_; refine ⟨i + 1, ?_, ?_, ?_⟩
    · show i + 1 ≤ _
      omega
    · first | omega | (dsimp only; omega)
    · exact ⟨⟨⟨_, rfl, (CoR.of_eq (by rw [tsf _ _ (by omega), List.length_append]; rfl))⟩, ⟨_, rfl, (by first | exact CoR.refl _ | exact coi (by omega) | exact cob (by simp_all))⟩, ⟨_, rfl, CoR.refl _⟩, trivial⟩, ⟨⟨_, rfl, (by rw [tsf _ _ (by omega)]; exact co_app _ (fun h => h) rfl (fun i j hi hj => CoP.refl _))⟩, ⟨_, rfl, CoO.refl _⟩, trivial⟩⟩
  · skip
    have h0 := r0
    have h0 := of_decide_eq_false h0
    try simp only [Int.toNat_natCast] at h0
    obtain rfl : i = s.done.length := by omega
    refine hw_exit ?_; show HW _ _ _ _ _; refine hw_seq ?_; refine hw_region (E := TryzE) Tryzok ?_; (iterate 2 refine rq rfl rfl rfl rfl rfl ?_); refine rg_nil ?_; show HW _ _ _ _ _; refine hw_ret ?_; refine ⟨.inr rfl, ?_⟩
    refine ⟨_, _, rfl, trivial, CoR.of_eq (by rw [List.take_length]; rfl), ⟨⟨_, rfl, CoO.of_eq (by rw [List.take_length])⟩, trivial⟩⟩
theorem good40 : goodFn Tryz.prog 40 := ⟨Tryz.f40, Tryz.func40, by kernel_rfl, by kernel_rfl⟩
theorem c40 (s : Stt) (l : List Chg) (h : s.done.length ≤ 68719476736) : HPure Tryz.prog 40 [s.pc, pP (chgs l)] (prOf [(comS s l).pc]) := by
  refine hpure_of (nt := 17) Tryzok Tryz.func40 rfl rfl (Nat.le_of_ble_eq_true rfl) ?_; refine hw_seq ?_; refine hw_region (E := TryzE) Tryzok ?_; refine rm 0 rfl rfl rfl rfl rfl rfl ?_; refine rm 1 rfl rfl rfl rfl rfl rfl ?_
  refine rg_nil ?_; show HW _ _ _ _ _; (iterate 2 refine hw_seq ?_); refine hw_region (E := TryzE) Tryzok ?_; (iterate 3 refine rq rfl rfl rfl rfl rfl ?_); refine rg_nil ?_; show HW _ _ _ _ _
  refine hw_cond _ rfl (fun r0 => ?_) (fun r0 => ?_)
  · skip
    have h0 := r0
    have h0 := of_decide_eq_true h0
    try simp only [Int.toNat_natCast] at h0
    refine hw_seq ?_; refine hw_region (E := TryzE) Tryzok ?_; refine rq rfl rfl rfl rfl rfl ?_; refine rs rfl rfl rfl rfl rfl ?_; refine rg_nil ?_; show HW _ _ _ _ _; refine hw_ret ?_; refine ⟨.inr rfl, ?_⟩
    exact ⟨_, _, _, _, rfl, (by (repeat' apply And.intro) <;> first | trivial | exact Nat.le_of_ble_eq_true rfl | rfl), rfl, (by (repeat' apply And.intro) <;> first | trivial | exact Nat.le_of_ble_eq_true rfl | rfl), ⟨CoC.of_eq (by rw [comS, if_pos (by omega)]), trivial⟩⟩
  · skip
    have h0 := r0
    have h0 := of_decide_eq_false h0
    try simp only [Int.toNat_natCast] at h0
    refine hw_skip ?_; show HW _ _ _ _ _; refine hw_seq ?_; refine hw_region (E := TryzE) Tryzok ?_; refine rm 2 rfl rfl rfl rfl rfl rfl ?_; (iterate 2 refine rq rfl rfl rfl rfl rfl ?_); refine ra 3 true rfl rfl rfl rfl rfl rfl ?_
    refine rq rfl rfl rfl rfl rfl ?_; refine rm 4 rfl rfl rfl rfl rfl rfl ?_; refine ra 5 true rfl rfl rfl rfl rfl rfl ?_; refine rq rfl rfl rfl rfl rfl ?_; refine rs rfl rfl rfl rfl rfl ?_; refine rg_nil ?_; show HW _ _ _ _ _
    refine hw_ret ?_; refine ⟨.inr rfl, ?_⟩
    rw [show comS s l = ⟨s.done ++ [l], [], false, []⟩ from by rw [comS, if_neg (by omega)]]
    exact ⟨_, _, _, _, rfl, (by (repeat' apply And.intro) <;> first | trivial | exact Nat.le_of_ble_eq_true rfl | rfl), rfl, (by (repeat' apply And.intro) <;> first | trivial | exact Nat.le_of_ble_eq_true rfl | rfl), ⟨CoC.agg ⟨co_appP (Nat.zero_add _) rfl (fun i j hi hj => CoP.of_eq (by simp [appF])) (lt1b (lt1 (CoP.refl _))), co_nil, CoP.refl _, co_nil, trivial⟩, trivial⟩⟩
theorem good42 : goodFn Tryz.prog 42 := ⟨Tryz.f42, Tryz.func42, by kernel_rfl, by kernel_rfl⟩
theorem c42 (s : Stt) (c : Chg) (h : s.done.length ≤ 68719476736) (h2 : s.now.length ≤ 68719476736) : HPure Tryz.prog 42 [s.pc, c.pc] (prOf [(putS s c).pc]) := by
  refine hpure_of (nt := 20) Tryzok Tryz.func42 rfl rfl (Nat.le_of_ble_eq_true rfl) ?_; refine hw_seq ?_; refine hw_region (E := TryzE) Tryzok ?_; refine rm 0 rfl rfl rfl rfl rfl rfl ?_; refine rm 1 rfl rfl rfl rfl rfl rfl ?_
  refine rm 2 rfl rfl rfl rfl rfl rfl ?_; refine rg_nil ?_; show HW _ _ _ _ _; (iterate 2 refine hw_seq ?_); refine hw_region (E := TryzE) Tryzok ?_; (iterate 2 refine rq rfl rfl rfl rfl rfl ?_); refine rg_nil ?_; show HW _ _ _ _ _
  refine hw_cond _ rfl (fun r0 => ?_) (fun r0 => ?_)
  · skip
    have h0 := r0
    refine hw_seq ?_; refine hw_draw (E := TryzE) Tryzok Tryzmixed [0, 1, 2, 3, 4, 5, 6, 7, 8] ?_; refine rm 3 rfl rfl rfl rfl rfl rfl ?_; (iterate 2 refine rq rfl rfl rfl rfl rfl ?_); refine ra 4 true rfl rfl rfl rfl rfl rfl ?_
    refine rq rfl rfl rfl rfl rfl ?_; refine rm 5 rfl rfl rfl rfl rfl rfl ?_; refine ra 6 true rfl rfl rfl rfl rfl rfl ?_; refine rq rfl rfl rfl rfl rfl ?_; refine rs rfl rfl rfl rfl rfl ?_; refine rg_nil ?_
    refine ⟨by kernel_rfl, ?_⟩; show HW _ _ _ _ _; refine hw_seq ?_; refine hw_region (E := TryzE) Tryzok ?_; refine rq rfl rfl rfl rfl rfl ?_; refine rs rfl rfl rfl rfl rfl ?_; refine rg_nil ?_; show HW _ _ _ _ _; refine hw_ret ?_
    refine ⟨.inr rfl, ?_⟩
    rw [show putS s c = { s with now := s.now ++ [c] } from if_pos (by assumption)]
    exact ⟨_, _, _, _, rfl, (by (repeat' apply And.intro) <;> first | trivial | exact Nat.le_of_ble_eq_true rfl | rfl), rfl, (by (repeat' apply And.intro) <;> first | trivial | exact Nat.le_of_ble_eq_true rfl | rfl), ⟨CoC.agg ⟨CoP.refl _, CoP.refl _, CoP.refl _, co_appP (Nat.zero_add _) rfl (fun i j hi hj => CoP.of_eq (by simp [appF])) (lt1b (lt11 (CoP.refl _) (CoP.refl _) (CoP.refl _) (CoP.refl _) (CoP.refl _) (CoP.refl _) (CoP.refl _) (CoP.refl _) (CoP.refl _) (CoP.refl _) (CoP.refl _))), trivial⟩, trivial⟩⟩
  · skip
    have h0 := r0
    refine hw_skip ?_; show HW _ _ _ _ _; refine hw_seq ?_; refine hw_region (E := TryzE) Tryzok ?_; (iterate 2 refine rq rfl rfl rfl rfl rfl ?_); refine rm 7 rfl rfl rfl rfl rfl rfl ?_
    refine rg_fcall rfl rfl rfl rfl rfl rfl good40 (HPure.eat (hcs := [s.pc.toH, .one (.ref 7 1)]) (o1 := [(7, .arr true 11 49 1 (lf Chg.c [c]))]) (c40 s [c] h) rfl (by (repeat' apply And.intro) <;> first | trivial | rfl) (CoL.refl _)) (CoHCL.refl _) ⟨⟨_, rfl, ⟨fun h => h, rfl, rfl, rfl, lt1b (lt11 (CoP.refl _) (CoP.refl _) (CoP.refl _) (CoP.refl _) (CoP.refl _) (CoP.refl _) (CoP.refl _) (CoP.refl _) (CoP.refl _) (CoP.refl _) (CoP.refl _))⟩⟩, trivial⟩ rfl rfl ?_
    refine rs rfl rfl rfl rfl rfl ?_; refine rg_nil ?_; show HW _ _ _ _ _; refine hw_ret ?_; refine ⟨.inr rfl, ?_⟩
    rw [show putS s c = comS s [c] from if_neg (by simp_all)]
    exact ⟨_, _, _, _, rfl, (by (repeat' apply And.intro) <;> first | trivial | exact Nat.le_of_ble_eq_true rfl | rfl), rfl, (by (repeat' apply And.intro) <;> first | trivial | exact Nat.le_of_ble_eq_true rfl | rfl), CoL.refl _⟩
theorem good10 : goodFn Tryz.prog 10 := ⟨Tryz.f10, Tryz.func10, by kernel_rfl, by kernel_rfl⟩
theorem c10 (l : List Opn) (most : Int) : HPure Tryz.prog 10 [pP (opns l), pI most] (prOf [pB (few l most)]) := by
  refine hpure_of (nt := 56) Tryzok Tryz.func10 rfl rfl (Nat.le_of_ble_eq_true rfl) ?_; refine hw_bt 0 rfl (fun hn => ?_); refine hw_seq ?_; refine hw_region (E := TryzE) Tryzok ?_; refine rq rfl rfl rfl rfl rfl ?_; refine rg_nil ?_
  show HW _ _ _ _ _; refine hw_joinK (ι := Unit) ⟨[(0, some _), (1, some _)], []⟩ ⟨⟨⟨_, rfl, CoR.refl _⟩, ⟨_, rfl, CoR.refl _⟩, trivial⟩, trivial⟩ (fun _i => ⟨[], []⟩) (fun _i => l.all fewOp = true) ?_ ?_
  · skip
    refine hw_seq ?_; refine hw_region (E := TryzE) Tryzok ?_; refine rq rfl rfl rfl rfl rfl ?_; refine rg_nil ?_; show HW _ _ _ _ _; refine hw_block ?_
    refine hw_loopK (ι := Nat) ⟨[(0, some _), (1, some _)], []⟩ ⟨⟨⟨_, rfl, CoR.refl _⟩, ⟨_, rfl, CoR.refl _⟩, trivial⟩, trivial⟩ (fun i => ⟨[(5, some (vI i))], []⟩) (fun i => i ≤ l.length ∧ ∀ j, j < i → fewOp (l.getD j default) = true) (fun i => l.length - i) (0) (⟨Nat.zero_le _, all_zero⟩) ⟨⟨⟨_, rfl, (by first | exact CoR.refl _ | exact coi (by omega) | exact cob (by simp_all))⟩, trivial⟩, trivial⟩ ?_
    rintro i ⟨hi, hI⟩
    (iterate 2 refine hw_seq ?_); refine hw_region (E := TryzE) Tryzok ?_; (iterate 4 refine rq rfl rfl rfl rfl rfl ?_); refine rg_nil ?_; show HW _ _ _ _ _; refine hw_cond _ rfl (fun r0 => ?_) (fun r0 => ?_)
    · skip
      have h0 := r0
      have h0 := of_decide_eq_true h0
      try simp only [Int.toNat_natCast] at h0
      refine hw_skip ?_; show HW _ _ _ _ _; refine hw_seq ?_; refine hw_block ?_; (iterate 2 refine hw_seq ?_); refine hw_region (E := TryzE) Tryzok ?_; (iterate 8 refine rq rfl rfl rfl rfl rfl ?_)
      refine rsplit rfl rfl (fun r1 => ?_) (fun r1 => ?_)
      · skip
        have h1 := r1
        have h1 := of_decide_eq_true h1
        try simp only [Int.toNat_natCast] at h1
        (iterate 8 refine rk rfl rfl rfl (gtf r1) ?_); refine rq rfl rfl rfl rfl rfl ?_ (hp := r1); refine rg_nil ?_; show HW _ _ _ _ _; refine hw_cond _ rfl (fun _ => ?_) (fun e => by cases e); refine hw_seq ?_
        refine hw_region (E := TryzE) Tryzok ?_; refine rq rfl rfl rfl rfl rfl ?_; refine rg_nil ?_; show HW _ _ _ _ _; refine hw_ret ?_; refine ⟨.inr rfl, ?_⟩
        exact ⟨_, _, _, _, rfl, (by (repeat' apply And.intro) <;> first | trivial | exact Nat.le_of_ble_eq_true rfl | rfl), rfl, (by (repeat' apply And.intro) <;> first | trivial | exact Nat.le_of_ble_eq_true rfl | rfl), ⟨ccb (few_f (i := i) (by omega) (by unfold fewOp; first | (rw [decide_eq_false (by omega)]; rfl) | (rw [Bool.and_eq_false_iff]; left; rw [Bool.and_eq_false_iff]; right; exact decide_eq_false (by omega)))).symm, trivial⟩⟩
      · skip
        have h1 := r1
        have h1 := of_decide_eq_false h1
        try simp only [Int.toNat_natCast] at h1
        (iterate 8 refine rq rfl rfl rfl rfl (gff r1) ?_); refine rq rfl rfl rfl rfl rfl ?_; refine rg_nil ?_; show HW _ _ _ _ _; refine hw_cond _ rfl (fun r2 => ?_) (fun r2 => ?_)
        · skip
          have h2 := r2
          have h2 := bif_f r1 h2
          have h2 := of_decide_eq_true h2
          try simp only [Int.toNat_natCast] at h2
          refine hw_seq ?_; refine hw_region (E := TryzE) Tryzok ?_; refine rq rfl rfl rfl rfl rfl ?_; refine rg_nil ?_; show HW _ _ _ _ _; refine hw_ret ?_; refine ⟨.inr rfl, ?_⟩
          exact ⟨_, _, _, _, rfl, (by (repeat' apply And.intro) <;> first | trivial | exact Nat.le_of_ble_eq_true rfl | rfl), rfl, (by (repeat' apply And.intro) <;> first | trivial | exact Nat.le_of_ble_eq_true rfl | rfl), ⟨ccb (few_f (i := i) (by omega) (by unfold fewOp; first | (rw [decide_eq_false (by omega)]; rfl) | (rw [Bool.and_eq_false_iff]; left; rw [Bool.and_eq_false_iff]; right; exact decide_eq_false (by omega)))).symm, trivial⟩⟩
        · skip
          have h2 := r2
          have h2 := bif_f r1 h2
          have h2 := of_decide_eq_false h2
          try simp only [Int.toNat_natCast] at h2
          refine hw_skip ?_; show HW _ _ _ _ _; refine hw_seq ?_; refine hw_region (E := TryzE) Tryzok ?_; refine rq rfl rfl rfl rfl rfl ?_; refine rg_nil ?_; show HW _ _ _ _ _; refine hw_block ?_
          refine hw_loopK (ι := Nat) ⟨[(0, some _), (1, some _), (5, some _)], []⟩ ⟨⟨⟨_, rfl, CoR.refl _⟩, ⟨_, rfl, CoR.refl _⟩, ⟨_, rfl, CoR.refl _⟩, trivial⟩, trivial⟩ (fun k => ⟨[(6, some (vI k))], []⟩) (fun k => k ≤ (l.getD i default).t.rows.length ∧ ∀ j, j < k → decide (((l.getD i default).t.rows.getD j default).length ≤ 20) = true) (fun k => (l.getD i default).t.rows.length - k) (0) (⟨Nat.zero_le _, all_zero⟩) ⟨⟨⟨_, rfl, (by first | exact CoR.refl _ | exact coi (by omega) | exact cob (by simp_all))⟩, trivial⟩, trivial⟩ ?_
          rintro k ⟨hk, hK⟩
          (iterate 2 refine hw_seq ?_); refine hw_region (E := TryzE) Tryzok ?_; (iterate 9 refine rq rfl rfl rfl rfl rfl ?_); refine rg_nil ?_; show HW _ _ _ _ _; refine hw_cond _ rfl (fun r3 => ?_) (fun r3 => ?_)
          · skip
            have h3 := r3
            have h3 := of_decide_eq_true h3
            try simp only [Int.toNat_natCast] at h3
            refine hw_skip ?_; show HW _ _ _ _ _; refine hw_seq ?_; refine hw_block ?_; refine hw_seq ?_; refine hw_region (E := TryzE) Tryzok ?_; (iterate 11 refine rq rfl rfl rfl rfl rfl ?_); refine rg_nil ?_; show HW _ _ _ _ _
            refine hw_cond _ rfl (fun r4 => ?_) (fun r4 => ?_)
            · skip
              have h4 := r4
              have h4 := of_decide_eq_true h4
              try simp only [Int.toNat_natCast] at h4
              refine hw_seq ?_; refine hw_region (E := TryzE) Tryzok ?_; refine rq rfl rfl rfl rfl rfl ?_; refine rg_nil ?_; show HW _ _ _ _ _; refine hw_ret ?_; refine ⟨.inr rfl, ?_⟩
              exact ⟨_, _, _, _, rfl, (by (repeat' apply And.intro) <;> first | trivial | exact Nat.le_of_ble_eq_true rfl | rfl), rfl, (by (repeat' apply And.intro) <;> first | trivial | exact Nat.le_of_ble_eq_true rfl | rfl), ⟨ccb (few_f (i := i) (by omega) (by unfold fewOp; rw [Bool.and_eq_false_iff]; right; exact all_f (i := k) (by omega) (decide_eq_false (by omega)))).symm, trivial⟩⟩
            · skip
              have h4 := r4
              have h4 := of_decide_eq_false h4
              try simp only [Int.toNat_natCast] at h4
              refine hw_skip ?_; show HW _ _ _ _ _; refine hw_region (E := TryzE) Tryzok ?_; (iterate 3 refine rq rfl rfl rfl rfl rfl ?_); refine rg_nil ?_; refine ⟨k + 1, ?_, ?_, ?_⟩
              · exact ⟨by omega, all_succ hK (decide_eq_true (by omega))⟩
              · first | omega | (dsimp only; omega)
              · exact ⟨⟨⟨_, rfl, (by first | exact CoR.refl _ | exact coi (by omega) | exact cob (by simp_all))⟩, ⟨_, rfl, CoR.refl _⟩, ⟨_, rfl, CoR.refl _⟩, ⟨_, rfl, CoR.refl _⟩, trivial⟩, trivial⟩
          · skip
            have h3 := r3
            have h3 := of_decide_eq_false h3
            try simp only [Int.toNat_natCast] at h3
            have hfw : fewOp (l.getD i default) = true := by
              unfold fewOp
              simp only [Bool.and_eq_true, decide_eq_true_eq]
              exact ⟨⟨by omega, by omega⟩, all_t fun j hj => hK j (by omega)⟩
            refine hw_exit ?_; show HW _ _ _ _ _; refine hw_region (E := TryzE) Tryzok ?_; (iterate 3 refine rq rfl rfl rfl rfl rfl ?_); refine rg_nil ?_; refine ⟨i + 1, ?_, ?_, ?_⟩
            · exact ⟨by omega, all_succ hI (hfw)⟩
            · first | omega | (dsimp only; omega)
            · exact ⟨⟨⟨_, rfl, (by first | exact CoR.refl _ | exact coi (by omega) | exact cob (by simp_all))⟩, ⟨_, rfl, CoR.refl _⟩, ⟨_, rfl, CoR.refl _⟩, trivial⟩, trivial⟩
    · skip
      have h0 := r0
      have h0 := of_decide_eq_false h0
      try simp only [Int.toNat_natCast] at h0
      refine hw_exit ?_; refine ⟨(), ?_, ?_⟩
      · exact all_t fun j hj => hI j (by omega)
      · exact ⟨⟨⟨_, rfl, CoR.refl _⟩, ⟨_, rfl, CoR.refl _⟩, trivial⟩, trivial⟩
  · rintro _ hj
    refine hw_seq ?_; refine hw_region (E := TryzE) Tryzok ?_; (iterate 5 refine rq rfl rfl rfl rfl rfl ?_); refine rg_nil ?_; show HW _ _ _ _ _; refine hw_ret ?_; refine ⟨.inr rfl, ?_⟩
    exact ⟨_, _, _, _, rfl, (by (repeat' apply And.intro) <;> first | trivial | exact Nat.le_of_ble_eq_true rfl | rfl), rfl, (by (repeat' apply And.intro) <;> first | trivial | exact Nat.le_of_ble_eq_true rfl | rfl), ⟨ccb (by simp [few, hj]), trivial⟩⟩
end Go.Hx
end
