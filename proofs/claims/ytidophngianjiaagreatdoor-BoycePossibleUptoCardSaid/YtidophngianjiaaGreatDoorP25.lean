/- A part of the proof: lemmas for the theorem of this claim, merged by a program of ours out of V13, Cs16, V14, Hx24, Cs17, V15, Cs18. -/
import Derived.Test.YtidophngianjiaaGreatDoorP17
import Derived.Test.YtidophngianjiaaGreatDoorP24
set_option linter.all false
section
namespace Go.Hx
open Go.Proofs
set_option maxRecDepth 100000
theorem good154 : goodFn Tryz.prog 154 := ⟨Tryz.f154, Tryz.func154, by kernel_rfl, by kernel_rfl⟩
theorem cNext (x s : Nat) (hs : s < 4294967296) (hx : x ≤ s) : HPure Tryz.prog 154 [pU x, pU s] (prOf [pU (nxt x s)]) := by
 refine hpure_of (nt := 15) Tryzok Tryz.func154 rfl rfl l9 ?_; refine hw_seq ?_; refine gy ?_; refine qy ?_; refine rg_nil ?_; (iterate 2 refine hw_seq ?_); refine gy ?_; (iterate 3 refine qy ?_); refine rg_nil ?_
 refine hw_cond _ rfl (fun r0 => ?_) (fun r0 => ?_)
 ·
  have h0 := of_decide_eq_true r0
  try simp only [ty] at h0
  refine hw_seq ?_; refine gy ?_; (iterate 3 refine qy ?_); refine rg_nil ?_; refine hw_ret ?_; refine ⟨.inr rfl, ?_⟩
  exact f9 rfl rfl (⟨cci (nxt_eq hs h0), trivial⟩)
 ·
  have h0 := of_decide_eq_false r0
  try simp only [ty] at h0
  refine hw_skip ?_; refine hw_seq ?_; refine gy ?_; (iterate 2 refine qy ?_); refine rqw rfl rfl rfl rfl rfl ?_; (iterate 3 refine qy ?_); refine rg_nil ?_; refine hw_ret ?_; refine ⟨.inr rfl, ?_⟩
  exact f9 rfl rfl (⟨cci (nxt_ne hs hx h0 (by first | exact .inl rfl | exact .inr rfl)), trivial⟩)
theorem good53 : goodFn Tryz.prog 53 := ⟨Tryz.f53, Tryz.func53, by kernel_rfl, by kernel_rfl⟩
theorem cSubs (s : AS) : HPure Tryz.prog 53 [pA s] (prOf [pP (asl (subsC s))]) := by
 refine hpure_of (nt := 23) Tryzok Tryz.func53 rfl rfl l9 ?_; refine hw_seq ?_; refine gy ?_; refine qy ?_; refine rg_nil ?_; (iterate 2 refine hw_seq ?_); refine gy ?_; refine qy ?_
 refine rc rfl rfl rfl rfl rfl rfl good106 (cSize s) (CoL.refl _) rfl rfl ?_; refine qy ?_; refine rg_nil ?_; refine hw_cond _ rfl (fun r0 => ?_) (fun r0 => ?_)
 ·
  have h0 := of_decide_eq_true r0
  try simp only [ty] at h0
  refine hw_seq ?_; refine gy ?_; refine qy ?_; refine rg_nil ?_; refine hw_ret ?_; refine ⟨.inr rfl, ?_⟩
  exact f9 rfl rfl (⟨CoC.one (nilS (subsC_t h0)), trivial⟩)
 ·
  have h0 := of_decide_eq_false r0
  try simp only [ty] at h0
  refine hw_skip ?_; refine hw_seq ?_; refine gy ?_; refine qy ?_; refine m9 0 ?_; refine qy ?_; refine rg_nil ?_; (iterate 2 refine hw_seq ?_); refine gy ?_; (iterate 2 refine qy ?_); refine rg_nil ?_; refine hw_block ?_
  refine hw_loopK (ι := List AS × AS) ⟨[(0, some _)], []⟩ ⟨⟨c9, trivial⟩, trivial⟩ (fun y => ⟨[(3, some (.v (.one (.ref 0 y.1.length)))), (4, some (vA y.2))], [(0, some (.arr true 1 38 y.1.length (lf sC y.1)))]⟩) (fun y => DownI s y) (fun y => y.2.toNat) (([s], s)) (down_zero s) ⟨⟨zy, zy, trivial⟩, ⟨⟨_, rfl, (arr_lit1 (CoP.refl _))⟩, trivial⟩⟩ ?_
  rintro y hy
  have hlen := hy.2.1
  have hsl := s.isLt
  (iterate 2 refine hw_seq ?_); refine gy ?_; (iterate 2 refine qy ?_); refine rg_nil ?_; refine hw_cond _ rfl (fun r1 => ?_) (fun r1 => ?_)
  ·
   have h1 := r1
   have h1 := of_decide_eq_false (not_t h1)
   try simp only [ty] at h1
   have hne : y.2 ≠ 0 := fun e => h1 (by rw [e]; rfl)
   refine hw_skip ?_; refine hw_block ?_; refine hw_seq ?_; refine gy ?_; refine qy ?_; refine rq rfl rfl rfl rfl rfl ?_ (hp := (pred_pre hne)); (iterate 3 refine qy ?_); refine rg_nil ?_; refine gy ?_; (iterate 2 refine qy ?_)
   refine m9 1 ?_; refine ra 2 true rfl rfl rfl rfl rfl rfl ?_; refine qy ?_; refine rg_nil ?_; refine ⟨(y.1 ++ [(y.2 - 1) &&& s], (y.2 - 1) &&& s), ?_, ?_, ?_⟩
   · exact down_next hy hne
   · exact pred_lt hne
   · exact ⟨⟨⟨_, rfl, (ref_app rfl)⟩, ⟨_, rfl, (cor_i (pred_and hne))⟩, c9, trivial⟩, ⟨⟨_, rfl, (arr_app1 rfl (CoP.of_eq (by rw [pred_and hne]; rfl)))⟩, trivial⟩⟩
  ·
   have h1 := r1
   have h1 := of_decide_eq_true (not_f h1)
   try simp only [ty] at h1
   have hz : y.2 = 0 := asI_inj.1 h1
   refine hw_exit ?_; refine hw_seq ?_; refine hw_freeze 3 rfl rfl rfl ?_; refine gy ?_; refine qy ?_; refine rc rfl rfl rfl rfl rfl rfl good56 (cOrder y.1 (by omega)) (CoL.refl _) rfl rfl ?_; refine qy ?_; refine rg_nil ?_
   refine hw_ret ?_; refine ⟨.inr rfl, ?_⟩
   exact f9 rfl rfl (⟨CoC.one (CoP.of_eq (by rw [subsC_f h0, down_end hy hz])), trivial⟩)
theorem good101 : goodFn Tryz.prog 101 := ⟨Tryz.f101, Tryz.func101, by kernel_rfl, by kernel_rfl⟩
theorem cRSubs (s : AS) : HPure Tryz.prog 101 [pA s] (prOf [pP (asl (subsC s))]) := by
 refine hpure_of (nt := 34) Tryzok Tryz.func101 rfl rfl l9 ?_; refine hw_seq ?_; refine gy ?_; refine qy ?_; refine rg_nil ?_; (iterate 2 refine hw_seq ?_); refine gy ?_; refine qy ?_
 refine rc rfl rfl rfl rfl rfl rfl good153 (cRSize _) (⟨cci (by first | rfl | exact set_u64 (by omega)), trivial⟩) rfl rfl ?_; refine qy ?_; refine rg_nil ?_; refine hw_cond _ rfl (fun r0 => ?_) (fun r0 => ?_)
 ·
  have h0 := of_decide_eq_true r0
  try simp only [ty] at h0
  refine hw_seq ?_; refine gy ?_; refine qy ?_; refine rg_nil ?_; refine hw_ret ?_; refine ⟨.inr rfl, ?_⟩
  exact f9 rfl rfl (⟨CoC.one (nilS (subsC_t h0)), trivial⟩)
 ·
  have h0 := of_decide_eq_false r0
  try simp only [ty] at h0
  refine hw_skip ?_; refine hw_seq ?_; refine gy ?_; refine qy ?_; refine rg_nil ?_; (iterate 2 refine hw_seq ?_); refine gy ?_; refine qy ?_; refine rg_nil ?_; refine hw_block ?_
  refine hw_adopt 3 900 true 1 38 (lf sC []) (by decide) rfl (CoP.sl rfl (.inr rfl) (fun h => h) (fun i j hi _ => absurd hi (Nat.not_lt_zero i))) (.inr rfl) rfl ?_
  refine hw_loopK (ι := List AS × Nat) ⟨[(0, some _)], []⟩ ⟨⟨c9, trivial⟩, trivial⟩ (fun x => ⟨[(3, some (.v (.one (.ref 900 x.1.length)))), (4, some (vI x.2))], [(900, some (.arr true 1 38 x.1.length (lf sC x.1)))]⟩) (fun x => UpK s x.2 x.1 ∧ x.2 ≤ bsz s + 1) (fun x => bsz s + 1 - x.2) (([], 0)) (⟨upk_zero s, Nat.zero_le _⟩) ⟨⟨zy, zy, trivial⟩, ⟨u9, trivial⟩⟩ ?_
  rintro x ⟨hx, hxb⟩
  have hlen := hx.1
  have hsl := s.isLt
  have hbz := bsz_le s
  (iterate 2 refine hw_seq ?_); refine gy ?_; (iterate 2 refine qy ?_); refine rc rfl rfl rfl rfl rfl rfl good153 (cRSize _) (⟨cci (by first | rfl | exact set_u64 (by omega)), trivial⟩) rfl rfl ?_; refine qy ?_; refine rg_nil ?_
  refine hw_cond _ rfl (fun r1 => ?_) (fun r1 => ?_)
  ·
   have h1 := of_decide_eq_true r1
   try simp only [ty] at h1
   refine hw_skip ?_; refine hw_seq ?_; refine hw_block ?_; refine hw_seq ?_; refine gy ?_; refine qy ?_; refine rg_nil ?_; refine hw_block ?_
   refine hw_loopK (ι := List AS × Nat) ⟨[(0, some _), (4, some _)], []⟩ ⟨⟨c9, c9, trivial⟩, trivial⟩ (fun y => ⟨[(3, some (.v (.one (.ref 900 y.1.length)))), (5, some (vU y.2))], [(900, some (.arr true 1 38 y.1.length (lf sC y.1)))]⟩) (fun y => UpI s x.2 y) (fun y => s.toNat + 1 - y.2) ((x.1, 0)) (upk_in hx) ⟨⟨zy, zy, trivial⟩, ⟨u9, trivial⟩⟩ ?_
   rintro y hy
   have hlen2 := hy.2.1
   have hyl := up_lt hy
   have hsa : asI s = (s.toNat : Int) := rfl
   (iterate 2 refine hw_seq ?_); refine gy ?_; (iterate 2 refine qy ?_); refine rq rfl rfl rfl rfl rfl ?_ (hp := (by simp only [arith, inR, loOf, hiOf]; omega)); refine qy ?_; refine rg_nil ?_
   refine hw_cond _ rfl (fun r2 => ?_) (fun r2 => ?_)
   ·
    have h2 := of_decide_eq_true r2
    try simp only [ty] at h2
    refine hw_skip ?_; refine hw_seq ?_; refine hw_block ?_; refine hw_seq ?_; refine gy ?_; refine qy ?_; refine rq rfl rfl rfl rfl rfl ?_ (hp := (by simp only [arith, inR, loOf, hiOf]; omega))
    refine rc rfl rfl rfl rfl rfl rfl good153 (cRSize _) (⟨cci (by first | rfl | exact set_u64 (by omega)), trivial⟩) rfl rfl ?_; (iterate 2 refine qy ?_); refine rg_nil ?_; refine hw_cond _ rfl (fun r3 => ?_) (fun r3 => ?_)
    ·
     have h3 := of_decide_eq_true r3
     try simp only [ty] at h3
     refine gy ?_; (iterate 2 refine qy ?_); refine rq rfl rfl rfl rfl rfl ?_ (hp := (by simp only [arith, inR, loOf, hiOf]; omega)); refine m9 0 ?_; refine ra 1 true rfl rfl rfl rfl rfl rfl ?_; refine qy ?_; refine rg_nil ?_
     refine gy ?_; (iterate 2 refine qy ?_); refine rq rfl rfl rfl rfl rfl ?_ (hp := (by simp only [arith, inR, loOf, hiOf]; omega))
     refine rc rfl rfl rfl rfl rfl rfl good154 (cNext y.2 s.toNat s.isLt (by omega)) (⟨CoC.refl _, cci rfl, trivial⟩) rfl rfl ?_; refine qy ?_; refine rg_nil ?_
     first | (refine ⟨(y.1 ++ [BitVec.ofNat 32 y.2], nxt y.2 s.toNat), ?_, ?_, ?_⟩
              · exact up_t hy (by omega) (by omega)
              · have := (nxt_step s.isLt (up_in hy (by omega))).1
                dsimp only
                omega
              · exact ⟨⟨⟨_, rfl, (ref_app rfl)⟩, zy, c9, c9, trivial⟩, ⟨⟨_, rfl, (arr_app1 rfl (CoP.of_eq (congrArg (fun z => PV.raw (.int .u32 z)) (set_u64 (by omega)))))⟩, trivial⟩⟩)
           | (refine ⟨(y.1, nxt y.2 s.toNat), ?_, ?_, ?_⟩
              · exact up_f hy (by omega) (by omega)
              · have := (nxt_step s.isLt (up_in hy (by omega))).1
                dsimp only
                omega
              · exact ⟨⟨zy, zy, c9, c9, trivial⟩, ⟨u9, trivial⟩⟩)
    ·
     have h3 := of_decide_eq_false r3
     try simp only [ty] at h3
     refine hw_skip ?_; refine gy ?_; (iterate 2 refine qy ?_); refine rq rfl rfl rfl rfl rfl ?_ (hp := (by simp only [arith, inR, loOf, hiOf]; omega))
     refine rc rfl rfl rfl rfl rfl rfl good154 (cNext y.2 s.toNat s.isLt (by omega)) (⟨CoC.refl _, cci rfl, trivial⟩) rfl rfl ?_; refine qy ?_; refine rg_nil ?_
     first | (refine ⟨(y.1 ++ [BitVec.ofNat 32 y.2], nxt y.2 s.toNat), ?_, ?_, ?_⟩
              · exact up_t hy (by omega) (by omega)
              · have := (nxt_step s.isLt (up_in hy (by omega))).1
                dsimp only
                omega
              · exact ⟨⟨⟨_, rfl, (ref_app rfl)⟩, zy, c9, c9, trivial⟩, ⟨⟨_, rfl, (arr_app1 rfl (CoP.of_eq (congrArg (fun z => PV.raw (.int .u32 z)) (set_u64 (by omega)))))⟩, trivial⟩⟩)
           | (refine ⟨(y.1, nxt y.2 s.toNat), ?_, ?_, ?_⟩
              · exact up_f hy (by omega) (by omega)
              · have := (nxt_step s.isLt (up_in hy (by omega))).1
                dsimp only
                omega
              · exact ⟨⟨zy, zy, c9, c9, trivial⟩, ⟨u9, trivial⟩⟩)
   ·
    have h2 := of_decide_eq_false r2
    try simp only [ty] at h2
    refine hw_exit ?_; refine gy ?_; (iterate 3 refine qy ?_); refine rg_nil ?_; refine ⟨(y.1, x.2 + 1), ?_, ?_, ?_⟩
    · show UpK s (x.2 + 1) y.1 ∧ x.2 + 1 ≤ _
      exact ⟨upk_out (y := y) hy (by omega), by omega⟩
    · dsimp only
      omega
    · exact ⟨⟨zy, zy, c9, trivial⟩, ⟨u9, trivial⟩⟩
  ·
   have h1 := of_decide_eq_false r1
   try simp only [ty] at h1
   refine hw_exit ?_; refine hw_seq ?_; refine gy ?_; (iterate 2 refine qy ?_); refine rg_nil ?_; refine hw_freeze 2 rfl rfl rfl ?_; refine hw_ret ?_; refine ⟨.inr rfl, ?_⟩
   exact f9 rfl rfl (⟨CoC.one (CoP.of_eq (by rw [subsC_f h0, upk_end hx (by omega)]; rfl)), trivial⟩)
end Go.Hx
end
section
namespace Go.Hx
def vioP (l : List Fd) (p x : AS) : Bool := decide (clo l x &&& p ≠ x) && decide (clo l x &&& p ≠ p)
def violX (l : List Fd) (p : AS) : Option AS := (subsC p).find? (vioP l p)
def vioF (l : List Fd) (p x : AS) : Fd := ⟨x, (clo l x &&& p) &&& ~~~x⟩
def violF (l : List Fd) (p : AS) : Fd := match violX l p with
 | some x => vioF l p x
 | none => ⟨0, 0⟩
def violB (l : List Fd) (p : AS) : Bool := (violX l p).isSome
theorem find_t {α : Type} [Inhabited α] {q : α → Bool} {l : List α} {i : Nat} (hi : i < l.length) (hI : ∀ j, j < i → q (l.getD j default) = false) (h : q (l.getD i default) = true) : l.find? q = some (l.getD i default) := by
 rw [List.find?_eq_some_iff_getElem]
 refine ⟨h, i, hi, by simp [List.getD, hi], fun j hj => ?_⟩
 have := hI j hj
 rw [List.getD_eq_getElem?_getD, List.getElem?_eq_getElem (by omega), Option.getD_some] at this
 simp [this]
theorem find_f {α : Type} [Inhabited α] {q : α → Bool} {l : List α} (hI : ∀ j, j < l.length → q (l.getD j default) = false) : l.find? q = none := by
 rw [List.find?_eq_none]
 intro x hx
 obtain ⟨j, hj, rfl⟩ := List.getElem_of_mem hx
 have := hI j hj
 rw [List.getD_eq_getElem?_getD, List.getElem?_eq_getElem hj, Option.getD_some] at this
 simp [this]
theorem viol_t {l : List Fd} {p : AS} {i : Nat} (hi : i < (subsC p).length) (hI : ∀ j, j < i → vioP l p ((subsC p).getD j default) = false) (h : vioP l p ((subsC p).getD i default) = true) : violF l p = vioF l p ((subsC p).getD i default) ∧ violB l p = true := by
 have e : violX l p = some ((subsC p).getD i default) := find_t hi hI h
 unfold violF violB
 rw [e]
 exact ⟨rfl, rfl⟩
theorem viol_f {l : List Fd} {p : AS} (hI : ∀ j, j < (subsC p).length → vioP l p ((subsC p).getD j default) = false) : violF l p = ⟨0, 0⟩ ∧ violB l p = false := by
 have e : violX l p = none := find_f hI
 unfold violF violB
 rw [e]
 exact ⟨rfl, rfl⟩
theorem vioP_x {l : List Fd} {p x : AS} (h : bitV .and .u32 (asI (clo l x)) (asI p) = asI x) : vioP l p x = false := by
 rw [bAnd, asI_inj] at h
 unfold vioP
 simp [h]
theorem vioP_p {l : List Fd} {p x : AS} (h : bitV .and .u32 (asI (clo l x)) (asI p) = asI p) : vioP l p x = false := by
 rw [bAnd, asI_inj] at h
 unfold vioP
 simp [h]
theorem vioP_t {l : List Fd} {p x : AS} (h : ¬ bitV .and .u32 (asI (clo l x)) (asI p) = asI x) (k : ¬ bitV .and .u32 (asI (clo l x)) (asI p) = asI p) : vioP l p x = true := by
 rw [bAnd, asI_inj] at h k
 unfold vioP
 simp [h, k]
theorem viol_co {l : List Fd} {p : AS} {i : Nat} {a b : PV} (hi : i < (subsC p).length) (hI : ∀ j, j < i → vioP l p ((subsC p).getD j default) = false) (h : vioP l p ((subsC p).getD i default) = true) (ha : a = asC ((subsC p).getD i default)) (hb : b = .raw (.int .u32 (bitV .andNot .u32 (bitV .and .u32 (asI (clo l ((subsC p).getD i default))) (asI p)) (asI ((subsC p).getD i default))))) : CoC (.agg [a, b]) (violF l p).pc :=
 CoC.of_eq (by rw [(viol_t hi hI h).1, ha, hb, bAnd, bNot]; rfl)
theorem viol_co0 {l : List Fd} {p : AS} (hI : ∀ j, j < (subsC p).length → vioP l p ((subsC p).getD j default) = false) : CoC (.agg [rawP (.int .u32 0), rawP (.int .u32 0)]) (violF l p).pc := CoC.of_eq (by rw [(viol_f hI).1]; rfl)
theorem downS_len {s : AS} : ∀ (n : Nat) (x : AS), (downS s n x).length ≤ x.toNat + 1
 | 0, x => Nat.zero_le _
 | n + 1, x => by
  unfold downS
  by_cases h0 : x = 0
  · rw [if_pos h0]; simp
  · rw [if_neg h0, List.length_cons]
    have h1 := downS_len (s := s) n ((x - 1) &&& s)
    have h2 := pred_lt (s := s) h0
    omega
theorem subsC_len (s : AS) : (subsC s).length ≤ 4294967296 := by
 unfold subsC subsL
 have h1 := downS_len (s := s) (s.toNat + 1) s
 have h2 := ord_len (downS s (s.toNat + 1) s)
 have h3 := s.isLt
 split
 · simp
 · omega
end Go.Hx
end
section
namespace Go.Hx
open Go.Proofs
set_option maxRecDepth 100000
theorem good62 : goodFn Tryz.prog 62 := ⟨Tryz.f62, Tryz.func62, by kernel_rfl, by kernel_rfl⟩
theorem cViol (l : List Fd) (p : AS) : HPure Tryz.prog 62 [pP (fdl l), pA p] (prOf [(violF l p).pc, pB (violB l p)]) := by
 refine hpure_of (nt := 36) Tryzok Tryz.func62 rfl rfl l9 ?_; refine hw_seq ?_; refine gy ?_; refine m9 0 ?_; refine qy ?_; refine rg_nil ?_; (iterate 2 refine hw_seq ?_); refine gy ?_; refine qy ?_
 refine rc rfl rfl rfl rfl rfl rfl good53 (cSubs p) (CoL.refl _) rfl rfl ?_; (iterate 2 refine qy ?_); refine rg_nil ?_; refine hw_block ?_
 refine hw_loopK (ι := Nat) ⟨[(0, some _), (1, some _), (4, some _), (10, some _), (11, some _)], [(0, some _)]⟩ ⟨⟨c9, c9, c9, c9, c9, trivial⟩, ⟨u9, trivial⟩⟩ (fun i => ⟨[(12, some (vI i))], []⟩) (fun i => i ≤ (subsC p).length ∧ (∀ j, j < i → vioP l p ((subsC p).getD j default) = false)) (fun i => (subsC p).length - i) (0) (⟨Nat.zero_le _, all_zero⟩) ⟨⟨zy, trivial⟩, trivial⟩ ?_
 rintro i ⟨hi, hI⟩
 have hlen := subsC_len p
 refine hw_seq ?_; refine gy ?_; refine qy ?_; refine rg_nil ?_; refine hw_seq ?_; refine hw_cond _ rfl (fun r0 => ?_) (fun r0 => ?_)
 ·
  have h0 := of_decide_eq_true r0
  try simp only [ty] at h0
  refine hw_skip ?_; refine hw_seq ?_; refine hw_block ?_; refine hw_seq ?_; refine gy ?_; (iterate 3 refine qy ?_); refine rg_nil ?_; refine hw_seq ?_; refine gy ?_; (iterate 2 refine qy ?_)
  refine rc rfl rfl rfl rfl rfl rfl good119 (cClose l ((subsC p).getD i default)) (CoL.refl _) rfl rfl ?_; (iterate 3 refine qy ?_); refine rg_nil ?_; refine hw_seq ?_; refine gy ?_; (iterate 4 refine qy ?_)
  refine rsplit rfl rfl (fun r1 => ?_) (fun r1 => ?_)
  ·
   have h1 := r1
   have h1 := of_decide_eq_false (not_t h1)
   try simp only [ty] at h1
   (iterate 3 refine qy ?_ (hg := (gtt r1))); refine qy ?_; refine rg_nil ?_; refine hw_cond _ rfl (fun r2 => ?_) (fun r2 => ?_)
   ·
    have h2 := r2
    have h2 := bif_t r1 h2
    have h2 := of_decide_eq_false (not_t h2)
    try simp only [ty] at h2
    refine hw_seq ?_; refine gy ?_; (iterate 5 refine qy ?_); refine s9 ?_; refine qy ?_; refine rg_nil ?_; refine hw_ret ?_; refine ⟨.inr rfl, ?_⟩
    exact f9 rfl rfl (⟨viol_co (i := i) (by omega) hI (vioP_t h1 h2) rfl rfl, ccb (viol_t (i := i) (by omega) hI (vioP_t h1 h2)).2.symm, trivial⟩)
   ·
    have h2 := r2
    have h2 := bif_t r1 h2
    have h2 := of_decide_eq_true (not_f h2)
    try simp only [ty] at h2
    refine hw_skip ?_; refine gy ?_; (iterate 2 refine qy ?_); refine rg_nil ?_; refine ⟨i + 1, ?_, ?_, ?_⟩
    · exact ⟨by show i + 1 ≤ _; omega, all_succ hI (by first | exact vioP_x h1 | exact vioP_p h2)⟩
    · first | omega | (dsimp only; omega)
    · exact ⟨⟨zy, c9, c9, c9, c9, c9, trivial⟩, ⟨u9, trivial⟩⟩
  ·
   have h1 := r1
   have h1 := of_decide_eq_true (not_f h1)
   try simp only [ty] at h1
   (iterate 3 refine k9 (gft r1) ?_); refine rq rfl rfl rfl rfl rfl ?_ (hp := r1); refine rg_nil ?_; refine hw_cond _ rfl (fun e => by cases e) (fun _ => ?_); refine hw_skip ?_; refine gy ?_; (iterate 2 refine qy ?_)
   refine rg_nil ?_; refine ⟨i + 1, ?_, ?_, ?_⟩
   · exact ⟨by show i + 1 ≤ _; omega, all_succ hI (by first | exact vioP_x h1 | exact vioP_p h2)⟩
   · first | omega | (dsimp only; omega)
   · exact ⟨⟨zy, c9, c9, c9, c9, c9, trivial⟩, ⟨u9, trivial⟩⟩
 ·
  have h0 := of_decide_eq_false r0
  try simp only [ty] at h0
  refine hw_exit ?_; refine hw_seq ?_; refine gy ?_; refine qy ?_; refine s9 ?_; refine qy ?_; refine rg_nil ?_; refine hw_ret ?_; refine ⟨.inr rfl, ?_⟩
  exact f9 rfl rfl (⟨viol_co0 (fun j hj => hI j (by omega)), ccb (viol_f (fun j hj => hI j (by omega))).2.symm, trivial⟩)
theorem good120 : goodFn Tryz.prog 120 := ⟨Tryz.f120, Tryz.func120, by kernel_rfl, by kernel_rfl⟩
theorem cRViol (l : List Fd) (p : AS) : HPure Tryz.prog 120 [pP (fdl l), pA p] (prOf [(violF l p).pc, pB (violB l p)]) := by
 refine hpure_of (nt := 48) Tryzok Tryz.func120 rfl rfl l9 ?_; refine hw_seq ?_; refine gy ?_; refine m9 0 ?_; refine qy ?_; refine rg_nil ?_; refine hw_seq ?_; refine gy ?_; refine qy ?_
 refine rc rfl rfl rfl rfl rfl rfl good101 (cRSubs p) (CoL.refl _) rfl rfl ?_; refine qy ?_; refine rg_nil ?_; (iterate 2 refine hw_seq ?_); refine gy ?_; refine qy ?_; refine rg_nil ?_; refine hw_block ?_
 refine hw_loopK (ι := Nat) ⟨[(0, some _), (1, some _), (4, some _), (6, some _)], [(0, some _)]⟩ ⟨⟨c9, c9, c9, c9, trivial⟩, ⟨u9, trivial⟩⟩ (fun i => ⟨[(7, some (vI i))], []⟩) (fun i => i ≤ (subsC p).length ∧ (∀ j, j < i → vioP l p ((subsC p).getD j default) = false)) (fun i => (subsC p).length - i) (0) (⟨Nat.zero_le _, all_zero⟩) ⟨⟨zy, trivial⟩, trivial⟩ ?_
 rintro i ⟨hi, hI⟩
 have hlen := subsC_len p
 (iterate 2 refine hw_seq ?_); refine gy ?_; (iterate 4 refine qy ?_); refine rg_nil ?_; refine hw_cond _ rfl (fun r0 => ?_) (fun r0 => ?_)
 ·
  have h0 := of_decide_eq_true r0
  try simp only [ty] at h0
  refine hw_skip ?_; refine hw_seq ?_; refine hw_block ?_; refine hw_seq ?_; refine gy ?_; (iterate 5 refine qy ?_); refine rc rfl rfl rfl rfl rfl rfl good128 (cRClose l ((subsC p).getD i default)) (CoL.refl _) rfl rfl ?_
  (iterate 3 refine qy ?_); refine rg_nil ?_; refine hw_seq ?_; refine gy ?_; (iterate 7 refine qy ?_); refine rsplit rfl rfl (fun r1 => ?_) (fun r1 => ?_)
  ·
   have h1 := r1
   have h1 := of_decide_eq_false (not_t h1)
   try simp only [ty] at h1
   (iterate 3 refine qy ?_ (hg := (gtt r1))); refine qy ?_; refine rg_nil ?_; refine hw_cond _ rfl (fun r2 => ?_) (fun r2 => ?_)
   ·
    have h2 := r2
    have h2 := bif_t r1 h2
    have h2 := of_decide_eq_false (not_t h2)
    try simp only [ty] at h2
    refine hw_seq ?_; refine hw_draw (E := TryzE) Tryzok Tryzmixed [0, 1, 2, 3, 4, 5, 6, 7, 8, 9, 10, 11, 12] ?_; (iterate 11 refine qy ?_); refine s9 ?_; refine qy ?_; refine rg_nil ?_; refine ⟨by kernel_rfl, ?_⟩
    refine hw_ret ?_; refine ⟨.inr rfl, ?_⟩
    exact f9 rfl rfl (⟨viol_co (i := i) (by omega) hI (vioP_t h1 h2) rfl rfl, ccb (viol_t (i := i) (by omega) hI (vioP_t h1 h2)).2.symm, trivial⟩)
   ·
    have h2 := r2
    have h2 := bif_t r1 h2
    have h2 := of_decide_eq_true (not_f h2)
    try simp only [ty] at h2
    refine hw_skip ?_; refine gy ?_; (iterate 3 refine qy ?_); refine rg_nil ?_; refine ⟨i + 1, ?_, ?_, ?_⟩
    · exact ⟨by show i + 1 ≤ _; omega, all_succ hI (by first | exact vioP_x h1 | exact vioP_p h2)⟩
    · first | omega | (dsimp only; omega)
    · exact ⟨⟨zy, c9, c9, c9, c9, trivial⟩, ⟨u9, trivial⟩⟩
  ·
   have h1 := r1
   have h1 := of_decide_eq_true (not_f h1)
   try simp only [ty] at h1
   (iterate 3 refine k9 (gft r1) ?_); refine rq rfl rfl rfl rfl rfl ?_ (hp := r1); refine rg_nil ?_; refine hw_cond _ rfl (fun e => by cases e) (fun _ => ?_); refine hw_skip ?_; refine gy ?_; (iterate 3 refine qy ?_)
   refine rg_nil ?_; refine ⟨i + 1, ?_, ?_, ?_⟩
   · exact ⟨by show i + 1 ≤ _; omega, all_succ hI (by first | exact vioP_x h1 | exact vioP_p h2)⟩
   · first | omega | (dsimp only; omega)
   · exact ⟨⟨zy, c9, c9, c9, c9, trivial⟩, ⟨u9, trivial⟩⟩
 ·
  have h0 := of_decide_eq_false r0
  try simp only [ty] at h0
  refine hw_exit ?_; refine hw_seq ?_; refine gy ?_; refine qy ?_; refine s9 ?_; refine qy ?_; refine rg_nil ?_; refine hw_ret ?_; refine ⟨.inr rfl, ?_⟩
  exact f9 rfl rfl (⟨viol_co0 (fun j hj => hI j (by omega)), ccb (viol_f (fun j hj => hI j (by omega))).2.symm, trivial⟩)
theorem good67 : goodFn Tryz.prog 67 := ⟨Tryz.f67, Tryz.func67, by kernel_rfl, by kernel_rfl⟩
theorem cRForm (l : List Fd) (p : AS) : HPure Tryz.prog 67 [pP (fdl l), pA p] (prOf [pB (!violB l p)]) := by
 refine hpure_of (nt := 15) Tryzok Tryz.func67 rfl rfl l9 ?_; refine hw_seq ?_; refine gy ?_; refine qy ?_; refine rg_nil ?_; refine hw_seq ?_; refine gy ?_; (iterate 2 refine qy ?_)
 refine rc rfl rfl rfl rfl rfl rfl good120 (cRViol l p) (CoL.refl _) rfl rfl ?_; (iterate 3 refine qy ?_); refine m9 0 ?_; refine s9 ?_; refine qy ?_; refine rg_nil ?_; refine hw_seq ?_; refine gy ?_; (iterate 3 refine qy ?_)
 refine rg_nil ?_; refine hw_ret ?_; refine ⟨.inr rfl, ?_⟩
 exact f9 rfl rfl (CoL.refl _)
end Go.Hx
end
section
namespace Go.Hx
open Go.RowKit
section
variable {w0 : World} {nt : Nat} {c : Ctx} {s : S} {a : Act} {w : World}
theorem RelC.short (h : RelC w0 nt c s a w) {id id' sz n m : Nat} {el : TypeId} {f : Nat → Nat → PV} (ho : s.o id = some (.arr true sz el n f)) (hm : m ≤ n) (hnm : NM s id') (hno : s.o id' = none) {u : Value} (hu : RepH c s.o (.win id n 0 m) u) :
 ∃ c', c'.old = c.old ∧ RelC w0 nt c' ((s.setO id none).setO id' (some (.arr true sz el m f))) a w ∧ RepHR c' ((s.setO id none).setO id' (some (.arr true sz el m f))).o (.v (.one (.ref id' m))) u := by
 have hne : id ≠ id' := fun e => by rw [← e, ho] at hno; cases hno
 obtain ⟨ad, ad', cap, q1, q2, q3, q4, q5, q6⟩ := win_own hu ho rfl
 obtain ⟨h0, h1, h5⟩ := h.objs id _ ho
 have hold : ∀ k ob, ((s.setO id none).setO id' (some (.arr true sz el m f))).o k = some ob → k ≠ id' → s.o k = some ob ∧ k ≠ id := fun k ob hk hk' => by
  simp only [S.setO, if_neg hk'] at hk
  by_cases hki : k = id
  · subst hki; simp at hk
  · rw [if_neg hki] at hk; exact ⟨hk, hki⟩
 obtain ⟨bk, hbk, hok⟩ : ∃ bk : Nat → Prop, (∀ b, bk b → c.blk id b) ∧ ∀ c' : Ctx, c'.imm = c.imm → c'.own id' = u → c'.blk id' = bk → ∀ o' : Objs, ObjOk 0 c' o' w id' (.arr true sz el m f) := by
  rcases h5 with ⟨h6, xs, h2, h4⟩ | ⟨h6 | h6, h7, h8⟩
  · obtain ⟨hxl, hrow⟩ := h2
    rcases hrow with ⟨hv0, hz⟩ | ⟨g, cap', cur, hown, hbase, hheap, hnc, hcm, hcs, htake⟩
    · rw [hv0] at q1
      simp only [Value.slice.injEq] at q1
      obtain ⟨rfl, _, rfl⟩ := q1
      obtain rfl : n = 0 := by omega
      obtain rfl : m = 0 := by omega
      refine ⟨noB, fun b hb => hb.elim, fun c' e1 e2 e3 o' => ⟨h0, Nat.zero_le _, .inr ⟨.inr rfl, e3, ?_⟩⟩⟩
      rw [e2, q2]
      exact ⟨ad', 0, rfl, Nat.le_refl _, Nat.zero_le _, fun _ => rfl, fun h => absurd h (Nat.lt_irrefl 0)⟩
    · rw [hown] at q1
      simp only [Value.slice.injEq, true_and] at q1
      obtain ⟨rfl, rfl⟩ := q1
      by_cases hcap : cap' = 0
      · subst hcap
        obtain rfl : m = 0 := by omega
        refine ⟨noB, fun b hb => hb.elim, fun c' e1 e2 e3 o' => ⟨h0, Nat.zero_le _, .inr ⟨.inr rfl, e3, ?_⟩⟩⟩
        rw [e2, q2]
        exact ⟨ad', 0, rfl, Nat.le_refl _, Nat.zero_le _, fun _ => rfl, fun h => absurd h (Nat.lt_irrefl 0)⟩
      · obtain rfl := q6 (by omega)
        simp only [Option.map_some, add_lit, Nat.zero_mul, Nat.add_zero, Nat.sub_zero] at q2
        have hmul : m * sz ≤ n * sz := Nat.mul_le_mul_right _ hm
        refine ⟨blkS u, fun b hb => by rw [h6, hown]; rw [q2] at hb; exact hb, fun c' e1 e2 e3 o' => ⟨h0, Nat.le_trans hm h1, .inl ⟨by rw [e2, e3], xs.take (m * sz), ⟨by rw [List.length_take, hxl, Nat.min_eq_left hmul], .inr ⟨g, cap', cur, by rw [e2, q2], hbase, hheap, by omega, hcm, hcs, ?_⟩⟩, fun i j hi hj => ?_⟩⟩⟩
        · rw [← htake, List.take_take, Nat.min_eq_left hmul]
        · obtain ⟨x, hx, hr⟩ := h4 i j (by omega) hj
          refine ⟨x, ?_, by rw [e1]; exact hr⟩
          rw [List.getElem?_take, if_pos (mul_idx hi hj)]
          exact hx
  · cases h6
  · subst h6
    obtain rfl : m = 0 := by omega
    refine ⟨noB, fun b hb => hb.elim, fun c' e1 e2 e3 o' => ⟨h0, Nat.zero_le _, .inr ⟨.inr rfl, e3, ?_⟩⟩⟩
    obtain ⟨ad2, cap2, r1, r2, r3, r4, _⟩ := h8
    rw [q1] at r1
    simp only [Value.slice.injEq, true_and] at r1
    obtain ⟨rfl, rfl⟩ := r1
    obtain rfl : cap = 0 := r4 rfl
    rw [e2, q2]
    exact ⟨ad', 0, rfl, Nat.le_refl _, Nat.zero_le _, fun _ => rfl, fun h => absurd h (Nat.lt_irrefl 0)⟩
 have hevo : ∀ k, k ≠ id' → Evo c s.o { c with own := fun k => if k = id' then u else c.own k, blk := fun k => if k = id' then bk else c.blk k } ((s.setO id none).setO id' (some (.arr true sz el m f))).o k := fun k hk => by
  by_cases hki : k = id
  · subst hki
    exact .inl (by simp [S.setO, hk])
  · exact Evo.of_same (by simp [S.setO, hk, hki]) (by simp [hk])
 refine ⟨{ c with own := fun k => if k = id' then u else c.own k, blk := fun k => if k = id' then bk else c.blk k }, rfl, ⟨h.defers, h.size, h.below, fun d x hx => ?_, fun k ob hk => ?_, fun i i' obi obi' b hi hi' hb hb' => ?_, h.imm, fun k ob b hk hb => ?_, h.was, h.frm, fun k ob b hk hb => ?_, fun k hk => ?_⟩, ?_⟩
 · exact (h.tmps d x hx).evo (Imm.le.refl c.imm) fun k hkm => hevo k (by rintro rfl; exact hnm.1 d x hx hkm)
 · by_cases hk' : k = id'
   · subst hk'
     obtain rfl : ob = .arr true sz el m f := by simpa [S.setO] using hk.symm
     refine hok _ ?_ ?_ ?_ _ <;> first | rfl | exact if_pos rfl
   · obtain ⟨hk1, hk2⟩ := hold k ob hk hk'
     exact (h.objs k ob hk1).keep (Imm.le.refl c.imm) (by simp [hk']) (by simp [hk']) (fun j hj => hevo j (by rintro rfl; exact hnm.2.1 k ob hk1 hj)) fun b _ => rfl
 · have hone : ∀ k ob b, k ≠ id' → ((s.setO id none).setO id' (some (.arr true sz el m f))).o k = some ob → c.blk k b → bk b → False := fun k ob b hk' hk hb hbb => by
    obtain ⟨hk1, hk2⟩ := hold k ob hk hk'
    exact hk2 (h.inj k id ob _ b hk1 ho hb (hbk b hbb))
   by_cases e1 : i = id'
   · by_cases e2 : i' = id'
     · rw [e1, e2]
     · exact (hone i' obi' b e2 hi' (by simpa [e2] using hb') (by simpa [e1] using hb)).elim
   · by_cases e2 : i' = id'
     · exact (hone i obi b e1 hi (by simpa [e1] using hb) (by simpa [e2] using hb')).elim
     · exact h.inj i i' obi obi' b (hold i obi hi e1).1 (hold i' obi' hi' e2).1 (by simpa [e1] using hb) (by simpa [e2] using hb')
 · by_cases hk' : k = id'
   · exact h.sep id _ b ho (hbk b (by simpa [hk'] using hb))
   · exact h.sep k ob b (hold k ob hk hk').1 (by simpa [hk'] using hb)
 · by_cases hk' : k = id'
   · exact h.fsep id _ b ho (hbk b (by simpa [hk'] using hb))
   · exact h.fsep k ob b (hold k ob hk hk').1 (by simpa [hk'] using hb)
 · exact (h.fixed k hk).trans (hevo k (by have := hnm.2.2; omega))
 · refine ⟨hu.1, fun l => by simp [S.setO], fun ob2 s2 e2 n2 ho2 hd2 => ?_⟩
   simp only [S.setO, if_true, Option.some.injEq] at ho2
   subst ho2
   simp only [HObj.dim, Option.some.injEq, Prod.mk.injEq] at hd2
   obtain ⟨rfl, rfl, rfl⟩ := hd2
   exact ⟨Nat.le_refl _, fun _ => by simp⟩
end
section
variable {ro : Option Nat} {P : Program} {nt : Nat} {st : HSt} {Q : Exit → HSt → Prop}
theorem hw_short {c : Code} (d id2 : Nat) {id n n' i m s : Nat} {e : TypeId} {f : Nat → Nat → PV} (hd : look st.t d = some (.v (.one (.win id n i m)))) (ho : look st.o id = some (.arr true s e n' f)) (hn : n' = n) (hi : i = 0) (hm : m ≤ n) (hnew : newB id2 st = true)
 (h : HW (ro := ro) P nt c ⟨(d, some (.v (.one (.ref id2 m)))) :: st.t, (id2, some (.arr true s e m f)) :: (id, none) :: st.o⟩ Q) : HW (ro := ro) P nt c st Q := by
 subst hn hi
 obtain ⟨hnm, hno⟩ := newB_spec hnew
 refine hw_put ⟨st.t, (id2, some (.arr true s e m f)) :: (id, none) :: st.o⟩ d (.v (.one (.ref id2 m))) (fun w0 m0 a w hr => ?_) h
 obtain ⟨cc, hold, hrr⟩ := hr
 obtain ⟨c', e1, e2, e3⟩ := hrr.short ho hm hnm hno (hrr.tmps d _ hd)
 have e4 : (HSt.den ⟨st.t, (id2, some (.arr true s e m f)) :: (id, none) :: st.o⟩) = (st.den.setO id none).setO id2 (some (.arr true s e m f)) := by
  unfold HSt.den S.setO
  simp [look_cons]
 exact ⟨c', e1.trans hold, by rw [e4]; exact e2, by rw [e4]; exact e3⟩
theorem hw_rename {c : Code} (d id2 : Nat) {id n n' s : Nat} {e : TypeId} {f : Nat → Nat → PV} (hd : look st.t d = some (.v (.one (.ref id n)))) (ho : look st.o id = some (.arr true s e n' f)) (hn : n' = n) (hnew : newB id2 st = true)
 (h : HW (ro := ro) P nt c ⟨(d, some (.v (.one (.ref id2 n)))) :: st.t, (id2, some (.arr true s e n f)) :: (id, none) :: st.o⟩ Q) : HW (ro := ro) P nt c st Q := by
 subst hn
 obtain ⟨hnm, hno⟩ := newB_spec hnew
 refine hw_put ⟨st.t, (id2, some (.arr true s e n' f)) :: (id, none) :: st.o⟩ d (.v (.one (.ref id2 n'))) (fun w0 m0 a w hr => ?_) h
 obtain ⟨cc, hold, hrr⟩ := hr
 have hu : RepH cc st.den.o (.ref id n') (a.tmps.getD d undef) := hrr.tmps d _ hd
 have hw : RepH cc st.den.o (.win id n' 0 n') (a.tmps.getD d undef) := by
  refine ⟨hu.1, hu.2.1, fun ob s2 e2 n2 ho2 hd2 => ⟨(hu.2.2 _ _ _ _ ho2 hd2).1, fun hk => ?_⟩⟩
  have he := (hu.2.2 _ _ _ _ ho2 hd2).2 hk
  obtain rfl : ob = .arr true s e n' f := Option.some.inj (ho2.symm.trans ho)
  simp only [HObj.dim, Option.some.injEq, Prod.mk.injEq] at hd2
  obtain ⟨rfl, rfl, rfl⟩ := hd2
  obtain ⟨ad, cap, hv, hc1, hc2⟩ := arr_any (hrr.objs _ _ ho2)
  exact ⟨ad, ad, cap, hv, by rw [he, hv]; rfl, by omega, hc1, hc2, fun _ => by cases ad <;> simp [addr_add_zero]⟩
 obtain ⟨c', e1, e2, e3⟩ := hrr.short ho (Nat.le_refl _) hnm hno hw
 have e4 : (HSt.den ⟨st.t, (id2, some (.arr true s e n' f)) :: (id, none) :: st.o⟩) = (st.den.setO id none).setO id2 (some (.arr true s e n' f)) := by
  unfold HSt.den S.setO
  simp [look_cons]
 exact ⟨c', e1.trans hold, by rw [e4]; exact e2, by rw [e4]; exact e3⟩
end
end Go.Hx
end
section
namespace Go.Hx
theorem co_all1H {l : List AS} {k : Nat} (hk : l.length ≤ k) (h : ∀ j, 0 < j → j < k → ¬ l.getD j default = l.getD (j - 1) default) : cmp1 l = l := by
 have := cmp1_pre (Nat.le_refl l.length) fun j h1 h2 => h j h1 (by omega)
 rw [List.take_length] at this
 exact this
theorem co_cutLen {l m : List AS} {k p q : Nat} (hC : CpI l k p q m) (hq : ¬ q < l.length) : (cmp1 l).length = p ∧ m.take p = cmp1 l := by
 have e := hC.pre
 have h1 := hC.ql
 have h2 := hC.len
 have h3 := hC.pq
 rw [show q = l.length by omega, List.take_length] at e
 exact ⟨by rw [← e]; simp; omega, e⟩
theorem co_cutO {l m : List AS} {k p q n a d : Nat} {z : List Value} {e : TypeId} (hC : CpI l k p q m) (hq : ¬ q < l.length) (ha : p ≤ a) (hn : n = p) : CoO (.arr true 1 e n (setZ (lf sC m) a d z)) (.arr true 1 e (cmp1 l).length (lf sC (cmp1 l))) := by
 obtain ⟨h1, h2⟩ := co_cutLen hC hq
 subst hn
 refine ⟨fun h => h, rfl, rfl, h1, fun i j hi hj => CoP.of_eq ?_⟩
 show setZ (lf sC m) a d z i j = lf sC (cmp1 l) i j
 unfold setZ
 rw [if_neg (by omega)]
 simp only [lf, List.getD]
 have e : (cmp1 l)[i]? = m[i]? := by rw [← h2, List.getElem?_take, if_pos hi]
 rw [e]
theorem ref_to {id n m : Nat} (h : n = m) : CoR (.v (.one (.ref id n))) (.v (.one (.ref id m))) := by rw [h]; exact CoR.refl _
end Go.Hx
end
section
namespace Go.Hx
open Go.Proofs
set_option maxRecDepth 100000
theorem cCompactH (l : List AS) : HFun Tryz.prog 114 [.one (.ref 900 l.length)] [(900, .arr true 1 38 l.length (lf sC l))] (.v (.one (.ref 901 (cmp1 l).length))) [(901, .arr true 1 38 (cmp1 l).length (lf sC (cmp1 l)))] [] := by
 refine hfun_of (nt := 61) Tryzok Tryz.func114 rfl rfl l9 rfl ?_; refine hw_seq ?_
 refine hw_ba 900 rfl fun hlen => ?_
 refine gy ?_; refine qy ?_; refine rg_nil ?_; (iterate 2 refine hw_seq ?_); refine gy ?_; (iterate 3 refine qy ?_); refine rg_nil ?_; refine hw_cond _ rfl (fun r0 => ?_) (fun r0 => ?_)
 ·
  have h0 := of_decide_eq_true r0
  try simp only [ty] at h0
  refine hw_seq ?_; refine gy ?_; (iterate 2 refine qy ?_); refine rg_nil ?_; refine hw_rename 2 901 rfl rfl rfl rfl ?_; refine hw_ret ?_; refine ⟨.inr rfl, ?_⟩
  have he := co_all1H (l := l) (k := l.length) (Nat.le_refl _) (fun j h1 h2 => by omega)
  exact ⟨_, _, rfl, (by (repeat' apply And.intro) <;> first | trivial | exact Nat.le_of_ble_eq_true rfl), ref_to (by rw [he]), ⟨⟨_, rfl, arr_len he (by rw [he])⟩, trivial⟩⟩
 ·
  have h0 := of_decide_eq_false r0
  try simp only [ty] at h0
  refine hw_skip ?_; (iterate 2 refine hw_seq ?_); refine gy ?_; refine qy ?_; refine rg_nil ?_; refine hw_block ?_
  refine hw_loopK (ι := Nat) ⟨[(0, some _)], [(900, some _)]⟩ ⟨⟨c9, trivial⟩, ⟨u9, trivial⟩⟩ (fun k => ⟨[(3, some (vI k))], []⟩) (fun k => 1 ≤ k ∧ k ≤ l.length ∧ ∀ j, 0 < j → j < k → ¬ l.getD j default = l.getD (j - 1) default) (fun k => l.length - k) (1) (⟨Nat.le_refl _, by omega, fun j h1 h2 => by omega⟩) ⟨⟨zy, trivial⟩, trivial⟩ ?_
  rintro k ⟨hk1, hk, hI⟩
  (iterate 2 refine hw_seq ?_); refine gy ?_; (iterate 4 refine qy ?_); refine rg_nil ?_; refine hw_cond _ rfl (fun r1 => ?_) (fun r1 => ?_)
  ·
   have h1 := of_decide_eq_true r1
   try simp only [ty] at h1
   refine hw_skip ?_; refine hw_seq ?_; refine hw_block ?_; refine hw_seq ?_; refine hw_draw (E := TryzE) Tryzok Tryzmixed [0, 1, 2, 3, 4, 5, 6, 7, 8, 9] ?_; (iterate 10 refine qy ?_); refine rg_nil ?_; refine ⟨by kernel_rfl, ?_⟩
   refine hw_cond _ rfl (fun r2 => ?_) (fun r2 => ?_)
   ·
    have h2 := of_decide_eq_true r2
    try simp only [ty] at h2
    refine hw_seq ?_; refine gy ?_; (iterate 4 refine qy ?_); refine rg_nil ?_; (iterate 2 refine hw_seq ?_); refine gy ?_; refine qy ?_; refine rg_nil ?_; refine hw_block ?_
    refine hw_loopK (ι := Nat × Nat × List AS) ⟨[(0, some _), (4, some _)], []⟩ ⟨⟨c9, c9, trivial⟩, trivial⟩ (fun x => ⟨[(3, some (vI x.1)), (5, some (vI ((x.2.1 : Int) - k)))], [(900, some (.arr true 1 38 l.length (lf sC x.2.2)))]⟩) (fun x => CpI l k x.1 x.2.1 x.2.2) (fun x => l.length - x.2.1) ((k, k + 1, l)) (CpI.start hk1 (by omega) hI (eq_of_i (by assumption) rfl (by omega))) ⟨⟨zy, ⟨_, rfl, (coi (by first | rfl | (dsimp only; omega)))⟩, trivial⟩, ⟨u9, trivial⟩⟩ ?_
    rintro ⟨p, q, m⟩ hC
    have hC0 := hC
    obtain ⟨hml, hkq, hpq, hql, _, _⟩ := hC0
    dsimp only at hC hml hkq hpq hql
    (iterate 2 refine hw_seq ?_); refine gy ?_; (iterate 4 refine qy ?_); refine rg_nil ?_; refine hw_cond _ rfl (fun r3 => ?_) (fun r3 => ?_)
    ·
     have h3 := of_decide_eq_true r3
     try simp only [ty] at h3
     simp only [less, upTo, Int.toNat_natCast] at h3
     refine hw_skip ?_; refine hw_seq ?_; refine hw_block ?_; refine hw_seq ?_; refine hw_draw (E := TryzE) Tryzok Tryzmixed [0, 1, 2, 3, 4, 5, 6, 7, 8, 9] ?_; (iterate 10 refine qy ?_); refine rg_nil ?_
     refine ⟨by kernel_rfl, ?_⟩; refine hw_cond _ rfl (fun r4 => ?_) (fun r4 => ?_)
     ·
      have h4 := r4
      have h4 := of_decide_eq_false (not_t h4)
      try simp only [ty] at h4
      refine hw_seq ?_; refine gy ?_; (iterate 7 refine qy ?_); refine s9 ?_; refine rg_nil ?_; refine gy ?_; (iterate 3 refine qy ?_); refine rg_nil ?_; refine gy ?_; (iterate 3 refine qy ?_); refine rg_nil ?_
      first | (refine ⟨(p + 1, q + 1, m.set p (m.getD q default)), ?_, ?_, ?_⟩
               · exact hC.keep (by omega) (ne_of_i (by assumption) (by simp only [upTo]; omega) (by simp only [upTo]; omega))
               · first | omega | (dsimp only; omega)
               · exact ⟨⟨⟨_, rfl, (coi (by first | rfl | (dsimp only; omega)))⟩, ⟨_, rfl, (coi (by first | rfl | (dsimp only; omega)))⟩, c9, c9, trivial⟩, ⟨⟨_, rfl, (co_setE id hml.symm (by omega) (by dsimp only; omega) (by simp only [upTo]; omega))⟩, trivial⟩⟩)
            | (refine ⟨(p, q + 1, m), ?_, ?_, ?_⟩
               · exact hC.skip (by omega) (eq_of_i (by assumption) (by simp only [upTo]; omega) (by simp only [upTo]; omega))
               · first | omega | (dsimp only; omega)
               · exact ⟨⟨⟨_, rfl, (coi (by first | rfl | (dsimp only; omega)))⟩, ⟨_, rfl, (coi (by first | rfl | (dsimp only; omega)))⟩, c9, c9, trivial⟩, ⟨u9, trivial⟩⟩)
     ·
      have h4 := r4
      have h4 := of_decide_eq_true (not_f h4)
      try simp only [ty] at h4
      refine hw_skip ?_; refine gy ?_; (iterate 3 refine qy ?_); refine rg_nil ?_
      first | (refine ⟨(p + 1, q + 1, m.set p (m.getD q default)), ?_, ?_, ?_⟩
               · exact hC.keep (by omega) (ne_of_i (by assumption) (by simp only [upTo]; omega) (by simp only [upTo]; omega))
               · first | omega | (dsimp only; omega)
               · exact ⟨⟨⟨_, rfl, (coi (by first | rfl | (dsimp only; omega)))⟩, ⟨_, rfl, (coi (by first | rfl | (dsimp only; omega)))⟩, c9, c9, trivial⟩, ⟨⟨_, rfl, (co_setE id hml.symm (by omega) (by dsimp only; omega) (by simp only [upTo]; omega))⟩, trivial⟩⟩)
            | (refine ⟨(p, q + 1, m), ?_, ?_, ?_⟩
               · exact hC.skip (by omega) (eq_of_i (by assumption) (by simp only [upTo]; omega) (by simp only [upTo]; omega))
               · first | omega | (dsimp only; omega)
               · exact ⟨⟨⟨_, rfl, (coi (by first | rfl | (dsimp only; omega)))⟩, ⟨_, rfl, (coi (by first | rfl | (dsimp only; omega)))⟩, c9, c9, trivial⟩, ⟨u9, trivial⟩⟩)
    ·
     have h3 := of_decide_eq_false r3
     try simp only [ty] at h3
     simp only [less, upTo, Int.toNat_natCast] at h3
     refine hw_exit ?_; refine hw_seq ?_; refine gy ?_; (iterate 3 refine qy ?_); refine ra 0 true rfl rfl rfl rfl rfl rfl ?_; refine rg_nil ?_; refine hw_seq ?_; refine gy ?_; (iterate 4 refine qy ?_); refine rg_nil ?_
     refine hw_short 2 901 rfl rfl rfl rfl (by simp only [less, upTo, Int.toNat_natCast]; omega) rfl ?_; refine hw_ret ?_; refine ⟨.inr rfl, ?_⟩
     have he := (co_cutLen hC (by omega)).1
     exact ⟨_, _, rfl, (by (repeat' apply And.intro) <;> first | trivial | exact Nat.le_of_ble_eq_true rfl), ref_to (by rw [he]; simp [less, upTo]), ⟨⟨_, rfl, co_cutO hC (by omega) (by simp [upTo]) (by simp [less, upTo])⟩, trivial⟩⟩
   ·
    have h2 := of_decide_eq_false r2
    try simp only [ty] at h2
    refine hw_skip ?_; refine gy ?_; (iterate 3 refine qy ?_); refine rg_nil ?_; refine ⟨k + 1, ?_, ?_, ?_⟩
    · refine ⟨by omega, by show k + 1 ≤ _; omega, fun j h1 h2 => ?_⟩
      rcases Nat.lt_or_eq_of_le (Nat.le_of_lt_succ h2) with h | h
      · exact hI j h1 h
      · subst h
        exact ne_of_i (by assumption) rfl (by omega)
    · first | omega | (dsimp only; omega)
    · exact ⟨⟨zy, c9, trivial⟩, ⟨u9, trivial⟩⟩
  ·
   have h1 := of_decide_eq_false r1
   try simp only [ty] at h1
   refine hw_exit ?_; refine hw_seq ?_; refine gy ?_; (iterate 2 refine qy ?_); refine rg_nil ?_; refine hw_rename 2 901 rfl rfl rfl rfl ?_; refine hw_ret ?_; refine ⟨.inr rfl, ?_⟩
   have he := co_all1H (l := l) (k := k) (by omega) hI
   exact ⟨_, _, rfl, (by (repeat' apply And.intro) <;> first | trivial | exact Nat.le_of_ble_eq_true rfl), ref_to (by rw [he]), ⟨⟨_, rfl, arr_len he (by rw [he])⟩, trivial⟩⟩
theorem cOrderH (l : List AS) (hl : l.length ≤ 8589934592) : HFun Tryz.prog 56 [.one (.p (asl l))] [] (.v (.one (.ref 901 (ord l).length))) [(901, .arr true 1 38 (ord l).length (lf sC (ord l)))] [] := by
 refine hfun_of (nt := 10) Tryzok Tryz.func56 rfl rfl l9 rfl ?_; refine hw_seq ?_; refine gy ?_; refine qy ?_; refine rg_nil ?_; refine hw_seq ?_; refine gy ?_; refine qy ?_
 refine rg_fcall rfl rfl rfl rfl rfl rfl good22 (clone75 l.length false (lf sC l) (by omega)) (CoHCL.refl _) trivial rfl rfl ?_; refine qy ?_; refine rg_nil ?_; refine hw_seq ?_; refine gy ?_; refine qy ?_
 refine rg_fcall rfl rfl rfl rfl rfl rfl good112 (cSort 0 _ l hl) (CoHCL.refl _) ⟨u9, trivial⟩ rfl rfl ?_; refine rg_nil ?_; refine hw_seq ?_; refine gy ?_; refine qy ?_
 refine rg_fcall rfl rfl rfl rfl rfl rfl good114 ((cCompactH (srt l)).swap 900 0) (⟨congrArg (HV.ref 0) (srt_len l).symm, trivial⟩) ⟨⟨_, rfl, arr_len rfl (srt_len l).symm⟩, trivial⟩ rfl rfl ?_; refine qy ?_; refine rg_nil ?_
 refine hw_ret ?_; refine ⟨.inr rfl, ?_⟩
 exact ⟨_, _, rfl, (by (repeat' apply And.intro) <;> first | trivial | exact Nat.le_of_ble_eq_true rfl), ref_to (by rw [cmp1_srt]), ⟨⟨_, rfl, arr_len (cmp1_srt _).symm (by rw [cmp1_srt])⟩, trivial⟩⟩
theorem cSubsH (s : AS) : HFun Tryz.prog 53 [.one (.p (asC s))] [] (.v (.one (.ref 901 (subsC s).length))) [(901, .arr true 1 38 (subsC s).length (lf sC (subsC s)))] [] := by
 refine hfun_of (nt := 23) Tryzok Tryz.func53 rfl rfl l9 rfl ?_; refine hw_seq ?_; refine gy ?_; refine qy ?_; refine rg_nil ?_; (iterate 2 refine hw_seq ?_); refine gy ?_; refine qy ?_
 refine rc rfl rfl rfl rfl rfl rfl good106 (cSize s) (CoL.refl _) rfl rfl ?_; refine qy ?_; refine rg_nil ?_; refine hw_cond _ rfl (fun r0 => ?_) (fun r0 => ?_)
 ·
  have h0 := of_decide_eq_true r0
  try simp only [ty] at h0
  refine hw_seq ?_; refine gy ?_; refine qy ?_; refine rg_nil ?_; refine hw_adopt 2 901 true 1 38 (lf sC []) (by decide) rfl (CoP.sl rfl (.inr rfl) (fun h => h) (fun i j hi _ => absurd hi (Nat.not_lt_zero i))) (.inr rfl) rfl ?_
  refine hw_ret ?_; refine ⟨.inr rfl, ?_⟩
  exact ⟨_, _, rfl, (by (repeat' apply And.intro) <;> first | trivial | exact Nat.le_of_ble_eq_true rfl), ref_to (by rw [subsC_t h0]; rfl), ⟨⟨_, rfl, arr_len (subsC_t h0) (by rw [subsC_t h0]; rfl)⟩, trivial⟩⟩
 ·
  have h0 := of_decide_eq_false r0
  try simp only [ty] at h0
  refine hw_skip ?_; refine hw_seq ?_; refine gy ?_; refine qy ?_; refine m9 0 ?_; refine qy ?_; refine rg_nil ?_; (iterate 2 refine hw_seq ?_); refine gy ?_; (iterate 2 refine qy ?_); refine rg_nil ?_; refine hw_block ?_
  refine hw_loopK (ι := List AS × AS) ⟨[(0, some _)], []⟩ ⟨⟨c9, trivial⟩, trivial⟩ (fun y => ⟨[(3, some (.v (.one (.ref 0 y.1.length)))), (4, some (vA y.2))], [(0, some (.arr true 1 38 y.1.length (lf sC y.1)))]⟩) (fun y => DownI s y) (fun y => y.2.toNat) (([s], s)) (down_zero s) ⟨⟨zy, zy, trivial⟩, ⟨⟨_, rfl, (arr_lit1 (CoP.refl _))⟩, trivial⟩⟩ ?_
  rintro y hy
  have hlen := hy.2.1
  have hsl := s.isLt
  (iterate 2 refine hw_seq ?_); refine gy ?_; (iterate 2 refine qy ?_); refine rg_nil ?_; refine hw_cond _ rfl (fun r1 => ?_) (fun r1 => ?_)
  ·
   have h1 := r1
   have h1 := of_decide_eq_false (not_t h1)
   try simp only [ty] at h1
   have hne : y.2 ≠ 0 := fun e => h1 (by rw [e]; rfl)
   refine hw_skip ?_; refine hw_block ?_; refine hw_seq ?_; refine gy ?_; refine qy ?_; refine rq rfl rfl rfl rfl rfl ?_ (hp := (pred_pre hne)); (iterate 3 refine qy ?_); refine rg_nil ?_; refine gy ?_; (iterate 2 refine qy ?_)
   refine m9 1 ?_; refine ra 2 true rfl rfl rfl rfl rfl rfl ?_; refine qy ?_; refine rg_nil ?_; refine ⟨(y.1 ++ [(y.2 - 1) &&& s], (y.2 - 1) &&& s), ?_, ?_, ?_⟩
   · exact down_next hy hne
   · exact pred_lt hne
   · exact ⟨⟨⟨_, rfl, (ref_app rfl)⟩, ⟨_, rfl, (cor_i (pred_and hne))⟩, c9, trivial⟩, ⟨⟨_, rfl, (arr_app1 rfl (CoP.of_eq (by rw [pred_and hne]; rfl)))⟩, trivial⟩⟩
  ·
   have h1 := r1
   have h1 := of_decide_eq_true (not_f h1)
   try simp only [ty] at h1
   have hz : y.2 = 0 := asI_inj.1 h1
   refine hw_exit ?_; refine hw_seq ?_; refine hw_freeze 3 rfl rfl rfl ?_; refine gy ?_; refine qy ?_; refine rg_fcall rfl rfl rfl rfl rfl rfl good56 (cOrderH y.1 (by omega)) (CoHCL.refl _) trivial rfl rfl ?_; refine qy ?_
   refine rg_nil ?_; refine hw_ret ?_; refine ⟨.inr rfl, ?_⟩
   have he := (down_end hy hz).trans (subsC_f h0).symm
   exact ⟨_, _, rfl, (by (repeat' apply And.intro) <;> first | trivial | exact Nat.le_of_ble_eq_true rfl), ref_to (by rw [he]), ⟨⟨_, rfl, arr_len he.symm (by rw [he])⟩, trivial⟩⟩
end Go.Hx
end
section
namespace Go.Hx
def vioE (l : List Fd) (p : AS) : Int := if vErr 16 l = 0 then (if 8 < bsz p then 3 else if p >>> 16 = 0 then 0 else 1) else vErr 16 l
def vioR (l : List Fd) (p : AS) : Fd := if vioE l p = 0 then violF l p else ⟨0, 0⟩
def vioRB (l : List Fd) (p : AS) : Bool := decide (vioE l p = 0) && violB l p
theorem pc0_co {f : Fd} (h : f = ⟨0, 0⟩) : CoC (.agg [rawP (.int .u32 0), rawP (.int .u32 0)]) f.pc := CoC.of_eq (by rw [h]; rfl)
theorem pc_co {a b : Fd} (h : a = b) : CoC a.pc b.pc := CoC.of_eq (by rw [h])
theorem vioE_1 {l : List Fd} {p : AS} (h : ¬ vErr 16 l = 0) : vioE l p = vErr 16 l ∧ vioR l p = ⟨0, 0⟩ ∧ vioRB l p = false := by
 have e : vioE l p = vErr 16 l := if_neg h
 unfold vioR vioRB
 rw [e]
 exact ⟨rfl, if_neg h, by rw [decide_eq_false h]; rfl⟩
theorem vioE_2 {l : List Fd} {p : AS} (h : vErr 16 l = 0) (h2 : (8 : Int) < bsz p) : vioE l p = 3 ∧ vioR l p = ⟨0, 0⟩ ∧ vioRB l p = false := by
 have e : vioE l p = 3 := by unfold vioE; rw [if_pos h, if_pos (by omega)]
 unfold vioR vioRB
 rw [e]
 exact ⟨rfl, rfl, rfl⟩
theorem shr_zero {p : AS} {n : Nat} : (asI p).fdiv (2 ^ (min n 32)) = 0 ↔ p >>> n = 0 := by
 rw [bShr, show (0 : Int) = asI 0 from rfl, asI_inj]
theorem vioE_3 {l : List Fd} {p : AS} (h : vErr 16 l = 0) (h2 : ¬ (8 : Int) < bsz p) (h3 : ¬ (asI p).fdiv (2 ^ (min 16 32)) = 0) : vioE l p = 1 ∧ vioR l p = ⟨0, 0⟩ ∧ vioRB l p = false := by
 rw [shr_zero] at h3
 have e : vioE l p = 1 := by unfold vioE; rw [if_pos h, if_neg (by omega), if_neg h3]
 unfold vioR vioRB
 rw [e]
 exact ⟨rfl, rfl, rfl⟩
theorem vioE_4 {l : List Fd} {p : AS} (h : vErr 16 l = 0) (h2 : ¬ (8 : Int) < bsz p) (h3 : (asI p).fdiv (2 ^ (min 16 32)) = 0) : vioE l p = 0 ∧ vioR l p = violF l p ∧ vioRB l p = violB l p := by
 rw [shr_zero] at h3
 have e : vioE l p = 0 := by unfold vioE; rw [if_pos h, if_neg (by omega), if_pos h3]
 unfold vioR vioRB
 rw [e]
 exact ⟨rfl, rfl, rfl⟩
def bcP (n : Int) (l : List Fd) (f : Fd) : Bool := decide (f.rhs &&& ~~~f.lhs ≠ 0) && decide (clo l f.lhs ≠ fullI n)
def bcS (n : Int) (l : List Fd) : Bool := decide (vErr n l = 0) && !l.any (bcP n l)
def subF (n : Int) (l : List Fd) : List AS := if errS n l 8 = 0 then (subsC (fullI n)).filter fun s => !violB l s else []
theorem subF_t {n : Int} {l : List Fd} (h : errS n l 8 = 0) : subF n l = (subsC (fullI n)).filter fun s => !violB l s := if_pos h
theorem subF_f {n : Int} {l : List Fd} (h : ¬ errS n l 8 = 0) : subF n l = [] := if_neg h
theorem errS_ok {n m : Int} {l : List Fd} (h : errS n l m = 0) : vErr n l = 0 ∧ n ≤ m := by
 unfold errS at h
 split at h
 · rename_i hv
   split at h
   · cases h
   · exact ⟨hv, by omega⟩
 · rename_i hv
   exact absurd h hv
theorem subF_len (n : Int) (l : List Fd) : (subF n l).length ≤ 4294967296 := by
 unfold subF
 have := subsC_len (fullI n)
 split
 · exact Nat.le_trans (List.length_filter_le _ _) this
 · simp
end Go.Hx
end
