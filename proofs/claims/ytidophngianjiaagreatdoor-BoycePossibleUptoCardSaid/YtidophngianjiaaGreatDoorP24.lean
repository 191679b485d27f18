/- A part of the proof: lemmas for the theorem of this claim, merged by a program of ours out of V10, Cs13, V11, Cs14, V12, Cs15. -/
import Derived.Test.YtidophngianjiaaGreatDoorP23
set_option linter.all false
section
namespace Go.Hx
open Go.Proofs
set_option maxRecDepth 100000
def rwC (l : List Fd) : Nat → PV
 | 0 => fdl l
 | _ => .any
abbrev rwss (ls : List (List Fd)) : PV := psl 1 rwC ls
theorem good236 : goodFn Tryz.prog 236 := ⟨Tryz.f236, Tryz.func236, by kernel_rfl, by kernel_rfl⟩
theorem good228 : goodFn Tryz.prog 228 := ⟨Tryz.f228, Tryz.func228, by kernel_rfl, by kernel_rfl⟩
theorem cConcat (ls : List (List Fd)) (h : ls.flatten.length ≤ 16777216) : HPure Tryz.prog 228 [pP (rwss ls)] (prOf [pP (fdl ls.flatten)]) := by
 refine hpure_of (nt := 36) Tryzok Tryz.func228 rfl rfl l9 ?_; refine hw_seq ?_; refine gy ?_; refine qy ?_; refine rg_nil ?_; refine hw_seq ?_; refine gy ?_; refine qy ?_; refine rg_nil ?_; (iterate 2 refine hw_seq ?_)
 refine hw_bt 0 rfl (fun hn => ?_); refine gy ?_; (iterate 3 refine qy ?_); refine rg_nil ?_; refine hw_block ?_
 refine hw_loopK (ι := Nat) ⟨[(0, some _), (9, some _), (10, some _)], []⟩ ⟨⟨c9, c9, c9, trivial⟩, trivial⟩ (fun i => ⟨[(3, some (vI (ls.take i).flatten.length)), (11, some (vI i))], []⟩) (fun i => i ≤ ls.length) (fun i => ls.length - i) (0) (Nat.zero_le _) ⟨⟨zy, zy, trivial⟩, trivial⟩ ?_
 rintro i hi
 refine hw_seq ?_; refine gy ?_; refine qy ?_; refine rg_nil ?_; refine hw_seq ?_; refine hw_cond _ rfl (fun r0 => ?_) (fun r0 => ?_)
 ·
  have h0 := of_decide_eq_true r0
  try simp only [ty] at h0
  have hts : (ls.take (i + 1)).flatten.length = (ls.take i).flatten.length + (ls.getD ((i : Nat) : Int).toNat default).length := by rw [tsf _ _ (by omega), List.length_append]; rfl
  have hfl : (ls.take i).flatten.length + (ls.getD ((i : Nat) : Int).toNat default).length ≤ ls.flatten.length := flat_take_le ls i (by omega)
  refine hw_skip ?_; refine hw_seq ?_; refine hw_block ?_; refine hw_seq ?_; refine gy ?_; (iterate 3 refine qy ?_); refine rg_nil ?_; refine hw_seq ?_; refine gy ?_; (iterate 5 refine qy ?_); refine rg_nil ?_; refine hw_seq ?_
  refine gy ?_; (iterate 2 refine qy ?_); refine rg_nil ?_; refine hw_cond _ rfl (fun r1 => ?_) (fun r1 => ?_)
  ·
   have h1 := of_decide_eq_true r1
   try simp only [ty] at h1
   exfalso
   omega
  ·
   have h1 := of_decide_eq_false r1
   try simp only [ty] at h1
   refine hw_skip ?_; refine gy ?_; (iterate 2 refine qy ?_); refine rg_nil ?_; refine ⟨i + 1, ?_, ?_, ?_⟩
   · show i + 1 ≤ _
     omega
   · first | omega | (dsimp only; omega)
   · exact ⟨⟨zy, zy, c9, c9, c9, trivial⟩, trivial⟩
 ·
  have h0 := of_decide_eq_false r0
  try simp only [ty] at h0
  obtain rfl : i = ls.length := by omega
  have hfe : (ls.take ls.length).flatten.length = ls.flatten.length := by rw [List.take_length]
  refine hw_exit ?_; refine hw_seq ?_; refine gy ?_; refine qy ?_; refine rg_fcall rfl rfl rfl rfl rfl rfl good236 (c139h (ls.take ls.length).flatten.length 900 (by omega) (lf Fd.c [])) (CoHCL.refl _) trivial rfl rfl ?_
  refine qy ?_; refine rg_nil ?_; (iterate 2 refine hw_seq ?_); refine gy ?_; (iterate 3 refine qy ?_); refine rg_nil ?_; refine hw_block ?_
  refine hw_loopK (ι := Nat) ⟨[(25, some _), (26, some _)], []⟩ ⟨⟨c9, c9, trivial⟩, trivial⟩ (fun i => ⟨[(6, some (.v (.one (.ref 900 (ls.take i).flatten.length)))), (27, some (vI i))], [(900, some (.arr true 2 40 (ls.take i).flatten.length (lf Fd.c (ls.take i).flatten)))]⟩) (fun i => i ≤ ls.length) (fun i => ls.length - i) (0) (Nat.zero_le _) ⟨⟨zy, zy, trivial⟩, ⟨u9, trivial⟩⟩ ?_
  rintro i hi
  refine hw_seq ?_; refine gy ?_; refine qy ?_; refine rg_nil ?_; refine hw_seq ?_; refine hw_cond _ rfl (fun r2 => ?_) (fun r2 => ?_)
  ·
   have h2 := of_decide_eq_true r2
   try simp only [ty] at h2
   have hts : (ls.take (i + 1)).flatten.length = (ls.take i).flatten.length + (ls.getD ((i : Nat) : Int).toNat default).length := by rw [tsf _ _ (by omega), List.length_append]; rfl
   have hfl : (ls.take i).flatten.length + (ls.getD ((i : Nat) : Int).toNat default).length ≤ ls.flatten.length := flat_take_le ls i (by omega)
   refine hw_skip ?_; refine hw_seq ?_; refine hw_block ?_; refine hw_seq ?_; refine gy ?_; (iterate 3 refine qy ?_); refine rg_nil ?_; refine gy ?_; (iterate 2 refine qy ?_); refine ra 0 true rfl rfl rfl rfl rfl rfl ?_
   refine qy ?_; refine rg_nil ?_; refine gy ?_; (iterate 2 refine qy ?_); refine rg_nil ?_; refine ⟨i + 1, ?_, ?_, ?_⟩
   · show i + 1 ≤ _
     omega
   · first | omega | (dsimp only; omega)
   · exact ⟨⟨⟨_, rfl, (CoR.of_eq (by rw [hts]))⟩, zy, c9, c9, trivial⟩, ⟨⟨_, rfl, (by rw [tsf _ _ (by omega)]; exact co_app _ (fun h => h) rfl (fun i j hi hj => CoP.refl _))⟩, trivial⟩⟩
  ·
   have h2 := of_decide_eq_false r2
   try simp only [ty] at h2
   obtain rfl : i = ls.length := by omega
   refine hw_exit ?_; refine hw_seq ?_; refine gy ?_; (iterate 2 refine qy ?_); refine rg_nil ?_; refine hw_ret ?_; refine ⟨.inr rfl, ?_⟩
   rw [show ls.flatten = (ls.take ls.length).flatten by rw [List.take_length]]
   exact f9 rfl rfl (CoL.refl _)
theorem good207 : goodFn Tryz.prog 207 := ⟨Tryz.f207, Tryz.func207, by kernel_rfl, by kernel_rfl⟩
theorem cOthers (l : List Fd) (i : Nat) (hi : i < l.length) (hl : l.length ≤ 16777216) : HPure Tryz.prog 207 [pP (fdl l), pI i] (prOf [pP (fdl (othersL l i))]) := by
 refine hpure_of (nt := 14) Tryzok Tryz.func207 rfl rfl l9 ?_; refine hw_seq ?_; refine gy ?_; refine qy ?_; refine rg_nil ?_; refine hw_seq ?_
 have hll := oth_len hi hl
 refine hw_draw (E := TryzE) Tryzok Tryzmixed [0, 1, 2, 3, 4, 5, 6, 7, 8, 9] ?_; (iterate 7 refine qy ?_); refine m9 0 ?_
 refine rg_fcall rfl rfl rfl rfl rfl rfl good228 (HPure.eat (hcs := [.one (.ref 0 2)]) (o1 := [(0, .arr true 1 27 2 (lf rwC [l.take i, l.drop (i + 1)]))]) (cConcat [l.take i, l.drop (i + 1)] hll) rfl (by (repeat' apply And.intro) <;> first | trivial | rfl) (CoL.refl _)) (CoHCL.refl _) ⟨⟨_, rfl, ⟨fun h => h, rfl, rfl, rfl, fun i j hi hj => (by have hi : i < 2 := hi; have hj : j < 1 := hj; obtain rfl : j = 0 := (by omega); rcases (show i = 0 ∨ i = 1 by omega) with rfl | rfl; exact co_takeI rfl (by omega); exact co_dropI rfl (by omega))⟩⟩, trivial⟩ rfl rfl ?_
 refine qy ?_; refine rg_nil ?_; refine ⟨by kernel_rfl, ?_⟩; refine hw_ret ?_; refine ⟨.inr rfl, ?_⟩
 exact f9 rfl rfl (⟨CoC.one (CoP.of_eq (by rw [oth_flat])), trivial⟩)
theorem good206 : goodFn Tryz.prog 206 := ⟨Tryz.f206, Tryz.func206, by kernel_rfl, by kernel_rfl⟩
theorem cRedun (l : List Fd) (i : Nat) (hi : i < l.length) (hl : l.length ≤ 16777216) : HPure Tryz.prog 206 [pP (fdl l), pI i] (prOf [pB (redB l i)]) := by
 refine hpure_of (nt := 13) Tryzok Tryz.func206 rfl rfl l9 ?_; refine hw_seq ?_; refine gy ?_; refine qy ?_; refine rg_nil ?_; refine hw_seq ?_; refine hw_draw (E := TryzE) Tryzok Tryzmixed [0, 1, 2, 3, 4, 5, 6, 7, 8] ?_
 (iterate 2 refine qy ?_); refine rc rfl rfl rfl rfl rfl rfl good207 (cOthers l i hi hl) (CoL.refl _) rfl rfl ?_; (iterate 4 refine qy ?_)
 refine rc rfl rfl rfl rfl rfl rfl good226 (cImp (othersL l i) (l.getD i default)) (CoL.refl _) rfl rfl ?_; refine qy ?_; refine rg_nil ?_; refine ⟨by kernel_rfl, ?_⟩; refine hw_ret ?_; refine ⟨.inr rfl, ?_⟩
 exact f9 rfl rfl (CoL.refl _)
theorem good204 : goodFn Tryz.prog 204 := ⟨Tryz.f204, Tryz.func204, by kernel_rfl, by kernel_rfl⟩
theorem cExtra (l : List Fd) (x : Fd) (a : Nat) : HPure Tryz.prog 204 [pP (fdl l), x.pc, pI a] (prOf [pB (exB l x a)]) := by
 refine hpure_of (nt := 17) Tryzok Tryz.func204 rfl rfl l9 ?_; refine hw_seq ?_; refine gy ?_; refine m9 0 ?_; refine qy ?_; refine rg_nil ?_; refine hw_seq ?_
 refine hw_draw (E := TryzE) Tryzok Tryzmixed [0, 1, 2, 3, 4, 5, 6, 7, 8, 9, 10] ?_; (iterate 9 refine qy ?_)
 refine rc rfl rfl rfl rfl rfl rfl good226 (cImp l ⟨x.lhs &&& ~~~((1 : AS) <<< a), x.rhs⟩) (⟨CoC.refl _, ex_co (and_shl _ _), trivial⟩) rfl rfl ?_; refine qy ?_; refine rg_nil ?_; refine ⟨by kernel_rfl, ?_⟩; refine hw_ret ?_
 refine ⟨.inr rfl, ?_⟩
 exact f9 rfl rfl (CoL.refl _)
end Go.Hx
end
section
namespace Go.Hx
def splitR (l : List Fd) (i k : Nat) : List Fd := splitL (l.take i) ++ (membT ((l.getD i default).rhs &&& ~~~(l.getD i default).lhs) k).map fun a => (⟨(l.getD i default).lhs, (1 : AS) <<< a⟩ : Fd)
def cutF (x : Fd) (a : Nat) : Fd := ⟨x.lhs &&& ~~~((1 : AS) <<< a), x.rhs⟩
def redA (i : Nat) (l : List Fd) (a : Nat) : List Fd := if hasI (l.getD i default).lhs a && exB l (l.getD i default) a then l.set i (cutF (l.getD i default) a) else l
def redK (l : List Fd) (i k : Nat) : List Fd := ((membs (l.getD i default).lhs).take k).foldl (redA i) l
def redI (l : List Fd) (i : Nat) : List Fd := (membs (l.getD i default).lhs).foldl (redA i) l
def redT (l : List Fd) (i : Nat) : List Fd := (List.range i).foldl redI l
theorem redA_len {i a : Nat} {l : List Fd} : (redA i l a).length = l.length := by
 unfold redA
 split
 · rw [List.length_set]
 · rfl
theorem foldA_len {i : Nat} : ∀ (m : List Nat) (l : List Fd), (m.foldl (redA i) l).length = l.length
 | [], l => rfl
 | a :: m, l => by rw [List.foldl_cons, foldA_len m, redA_len]
theorem redK_len {l : List Fd} {i k : Nat} : (redK l i k).length = l.length := foldA_len _ _
theorem redI_len {l : List Fd} {i : Nat} : (redI l i).length = l.length := foldA_len _ _
theorem redT_len {l : List Fd} : ∀ {i : Nat}, (redT l i).length = l.length
 | 0 => rfl
 | i + 1 => by
  unfold redT
  rw [List.range_succ, List.foldl_append]
  show (redI ((List.range i).foldl redI l) i).length = _
  rw [redI_len]
  exact redT_len (i := i)
theorem redT_succ (l : List Fd) (i : Nat) : redT l (i + 1) = redI (redT l i) i := by
 unfold redT
 rw [List.range_succ, List.foldl_append]
 rfl
theorem redK_zero (l : List Fd) (i : Nat) : redK l i 0 = l := by unfold redK; rw [List.take_zero]; rfl
theorem redK_end {l : List Fd} {i k : Nat} (hk : k = (membs (l.getD i default).lhs).length) : redK l i k = redI l i := by
 unfold redK redI
 rw [hk, List.take_length]
theorem redK_succ {l : List Fd} {i k : Nat} (hk : k < (membs (l.getD i default).lhs).length) : redK l i (k + 1) = redA i (redK l i k) ((membs (l.getD i default).lhs).getD k default) := by
 unfold redK
 rw [take_snoc hk, List.foldl_append]
 rfl
theorem getD_setF {l : List Fd} {i : Nat} {x : Fd} (hi : i < l.length) : (l.set i x).getD i default = x := by simp [List.getD, hi]
theorem redA_lhs {i a b : Nat} {l : List Fd} (hi : i < l.length) (hb : b < 32) (hne : b ≠ a) : ((redA i l a).getD i default).lhs.getLsbD b = (l.getD i default).lhs.getLsbD b := by
 unfold redA
 split
 · rw [getD_setF hi]
   show ((l.getD i default).lhs &&& ~~~((1 : AS) <<< a)).getLsbD b = _
   rw [BitVec.getLsbD_and, BitVec.getLsbD_not, bit_one _ _ hb]
   simp [hb, hne]
 · rfl
theorem foldA_lhs {i b : Nat} (hb : b < 32) : ∀ (m : List Nat) (l : List Fd), i < l.length → (∀ a ∈ m, b ≠ a) → ((m.foldl (redA i) l).getD i default).lhs.getLsbD b = (l.getD i default).lhs.getLsbD b
 | [], l, _, _ => rfl
 | a :: m, l, hi, h => by
  rw [List.foldl_cons, foldA_lhs hb m _ (by rw [redA_len]; exact hi) fun c hc => h c (List.mem_cons_of_mem _ hc), redA_lhs hi hb (h a List.mem_cons_self)]
theorem membs_pair (s : AS) : (membs s).Pairwise (· < ·) := List.Pairwise.filter _ List.pairwise_lt_range
theorem getDn_eq {m : List Nat} {k : Nat} (hk : k < m.length) : m.getD k default = m[k] := by simp [List.getD, hk]
theorem getDn_mem {m : List Nat} {k : Nat} (hk : k < m.length) : m.getD k default ∈ m := by rw [getDn_eq hk]; exact List.getElem_mem hk
theorem redK_has {l : List Fd} {i k : Nat} (hi : i < l.length) (hk : k < (membs (l.getD i default).lhs).length) : hasI ((redK l i k).getD i default).lhs (((membs (l.getD i default).lhs).getD k default : Nat) : Int) = true := by
 have hm : (membs (l.getD i default).lhs).getD k default ∈ membs (l.getD i default).lhs := getDn_mem hk
 obtain ⟨h1, h2⟩ := mem_membs.1 hm
 rw [hasI_nat h1]
 unfold redK
 rw [foldA_lhs h1 _ _ hi, h2]
 intro a ha
 obtain ⟨j, hj, rfl⟩ := List.getElem_of_mem ha
 rw [List.length_take] at hj
 rw [List.getElem_take, getDn_eq hk]
 have := List.pairwise_iff_getElem.1 (membs_pair (l.getD i default).lhs) j k (by omega) hk (by omega)
 exact Nat.ne_of_gt this
theorem redA_t {i a : Nat} {l : List Fd} (h : hasI (l.getD i default).lhs a = true) (h2 : exB l (l.getD i default) a = true) : redA i l a = l.set i (cutF (l.getD i default) a) := by unfold redA; rw [h, h2]; rfl
theorem redA_f {i a : Nat} {l : List Fd} (h2 : exB l (l.getD i default) a = false) : redA i l a = l := by unfold redA; rw [h2]; simp
theorem co_setF {wr wr' : Bool} {n k i a : Nat} {e : TypeId} {l l' : List Fd} {v : Int} (hl : l' = l.set i (cutF (l.getD i default) a)) (hv : v = asI ((l.getD i default).lhs &&& ~~~((1 : AS) <<< a))) (hk : k = i) (hi : i < l.length) (hn : n = l.length) (hw : wr' = true → wr = true := by exact fun h => h) :
 CoO (.arr wr 2 e n (setEl (lf Fd.c l) k 0 [.raw (.int .u32 v)])) (.arr wr' 2 e n (lf Fd.c l')) := by
 subst hl hv hk hn
 refine ⟨hw, rfl, rfl, rfl, fun r j hr hj => CoP.of_eq ?_⟩
 unfold setEl lf
 by_cases h : r = k
 · subst h
   rw [getD_setF hi]
   rcases (by omega : j = 0 ∨ j = 1) with rfl | rfl
   · rw [if_pos ⟨rfl, Nat.le_refl _, by simp⟩]
     rfl
   · rw [if_neg (by simp)]
     rfl
 · rw [if_neg (by omega), getD_set_ne' h]
theorem co_lenF {n : Nat} {cl : Bool} {l : List Fd} (h : n = l.length) : CoP (.sl n 2 cl (lf Fd.c l)) (fdl l) := CoP.sl h.symm (.inl rfl) (fun h => by cases h) fun _ _ _ _ => CoP.refl _
def dropR : Nat → List Fd → Nat → List Fd
 | 0, l, _ => l
 | f + 1, l, i => if i < l.length then (if redB l i then dropR f (othersL l i) i else dropR f l (i + 1)) else l
theorem dropR_t {l : List Fd} {i : Nat} (hi : i < l.length) (h : redB l i = true) : dropR (l.length - i) l i = dropR ((othersL l i).length - i) (othersL l i) i := by
 rw [othersL_len hi, show l.length - i = (l.length - 1 - i) + 1 by omega]
 show (if i < l.length then (if redB l i then _ else _) else l) = _
 rw [if_pos hi, h]
 rfl
theorem dropR_f {l : List Fd} {i : Nat} (hi : i < l.length) (h : redB l i = false) : dropR (l.length - i) l i = dropR (l.length - (i + 1)) l (i + 1) := by
 rw [show l.length - i = (l.length - (i + 1)) + 1 by omega]
 show (if i < l.length then (if redB l i then _ else _) else l) = _
 rw [if_pos hi, h]
 rfl
theorem dropR_end {l : List Fd} {i : Nat} (hi : ¬ i < l.length) : dropR (l.length - i) l i = l := by rw [show l.length - i = 0 by omega]; rfl
def spl (l : List Fd) : List Fd := onceL (splitL l)
def redAll (l : List Fd) : List Fd := onceL (redT (spl l) (spl l).length)
def minS (l : List Fd) : List Fd := dropR (redAll l).length (redAll l) 0
theorem spl_len (l : List Fd) : (spl l).length ≤ 32 * l.length := Nat.le_trans (onceL_len _) (splitL_len l)
theorem redAll_len (l : List Fd) : (redAll l).length ≤ 32 * l.length := Nat.le_trans (onceL_len _) (by rw [redT_len]; exact spl_len l)
def lhsIn (t : AS) (l : List Fd) : Prop := ∀ x ∈ l, sub x.lhs t
end Go.Hx
end
section
namespace Go.Hx
open Go.Proofs
set_option maxRecDepth 100000
theorem good203 : goodFn Tryz.prog 203 := ⟨Tryz.f203, Tryz.func203, by kernel_rfl, by kernel_rfl⟩
theorem cSplitH (l : List Fd) (hl : l.length ≤ 4096) : HFun Tryz.prog 203 [.one (.p (fdl l))] [] (.v (.one (.ref 900 (spl l).length))) [(900, .arr true 2 40 (spl l).length (lf Fd.c (spl l)))] [] := by
 refine hfun_of (nt := 37) Tryzok Tryz.func203 rfl rfl l9 rfl ?_; refine hw_seq ?_; refine gy ?_; refine qy ?_; refine rg_nil ?_; refine hw_seq ?_; refine gy ?_; refine qy ?_; refine rg_nil ?_; (iterate 2 refine hw_seq ?_)
 refine hw_bt 0 rfl fun hn => ?_
 refine gy ?_; (iterate 3 refine qy ?_); refine rg_nil ?_; refine hw_block ?_
 refine hw_adopt 3 901 true 2 40 (lf Fd.c []) (by decide) rfl (CoP.sl rfl (.inr rfl) (fun h => h) (fun i j hi _ => absurd hi (Nat.not_lt_zero i))) (.inr rfl) rfl ?_
 refine hw_loopK (ι := Nat) ⟨[(8, some _), (9, some _)], []⟩ ⟨⟨c9, c9, trivial⟩, trivial⟩ (fun i => ⟨[(3, some (.v (.one (.ref 901 (splitL (l.take i)).length)))), (10, some (vI i))], [(901, some (.arr true 2 40 (splitL (l.take i)).length (lf Fd.c (splitL (l.take i)))))]⟩) (fun i => i ≤ l.length) (fun i => l.length - i) (0) (Nat.zero_le _) ⟨⟨zy, zy, trivial⟩, ⟨u9, trivial⟩⟩ ?_
 rintro i hi
 refine hw_seq ?_; refine gy ?_; refine qy ?_; refine rg_nil ?_; refine hw_seq ?_; refine hw_cond _ rfl (fun r0 => ?_) (fun r0 => ?_)
 ·
  have h0 := of_decide_eq_true r0
  try simp only [ty] at h0
  refine hw_skip ?_; refine hw_seq ?_; refine hw_block ?_; refine hw_seq ?_; refine gy ?_; (iterate 2 refine qy ?_); refine m9 0 ?_; refine s9 ?_; refine rg_nil ?_; refine hw_seq ?_; refine gy ?_; (iterate 5 refine qy ?_)
  refine rc rfl rfl rfl rfl rfl rfl good159 (cMem ((l.getD i default).rhs &&& ~~~(l.getD i default).lhs)) (⟨cci (bNot _ _), trivial⟩) rfl rfl ?_; (iterate 2 refine qy ?_); refine rg_nil ?_; refine hw_block ?_
  refine hw_loopK (ι := Nat) ⟨[(5, some _), (8, some _), (9, some _), (10, some _), (19, some _), (20, some _)], [(0, some _)]⟩ ⟨⟨c9, c9, c9, c9, c9, c9, trivial⟩, ⟨u9, trivial⟩⟩ (fun k => ⟨[(3, some (.v (.one (.ref 901 (splitT l i k).length)))), (21, some (vI k))], [(901, some (.arr true 2 40 (splitT l i k).length (lf Fd.c (splitT l i k))))]⟩) (fun k => k ≤ (membs ((l.getD i default).rhs &&& ~~~(l.getD i default).lhs)).length) (fun k => (membs ((l.getD i default).rhs &&& ~~~(l.getD i default).lhs)).length - k) (0) (Nat.zero_le _) ⟨⟨⟨_, rfl, (ref_same (splitT_zero l i))⟩, zy, trivial⟩, ⟨⟨_, rfl, (arr_same (splitT_zero l i))⟩, trivial⟩⟩ ?_
  rintro k hk
  have hml := membs_le ((l.getD i default).rhs &&& ~~~(l.getD i default).lhs)
  have hsl := splitT_len (l := l) (i := i) (k := k) (by omega)
  refine hw_seq ?_; refine gy ?_; refine qy ?_; refine rg_nil ?_; refine hw_seq ?_; refine hw_cond _ rfl (fun r1 => ?_) (fun r1 => ?_)
  ·
   have h1 := of_decide_eq_true r1
   try simp only [ty] at h1
   refine hw_skip ?_; refine hw_seq ?_; refine hw_block ?_; refine hw_seq ?_; refine gy ?_; (iterate 3 refine qy ?_); refine rg_nil ?_; refine hw_draw (E := TryzE) Tryzok Tryzmixed [0, 1, 2, 3, 4, 5, 6, 7, 8] ?_
   (iterate 4 refine qy ?_); refine rq rfl rfl rfl rfl rfl ?_ (hp := (Int.natCast_nonneg _)); refine qy ?_; refine m9 1 ?_; refine ra 2 true rfl rfl rfl rfl rfl rfl ?_; refine qy ?_; refine rg_nil ?_; refine ⟨by kernel_rfl, ?_⟩
   refine gy ?_; (iterate 2 refine qy ?_); refine rg_nil ?_; refine ⟨k + 1, ?_, ?_, ?_⟩
   · show k + 1 ≤ _; omega
   · first | omega | (dsimp only; omega)
   · exact ⟨⟨⟨_, rfl, (ref_app (splitT_step rfl (by omega)))⟩, zy, c9, c9, c9, c9, c9, c9, trivial⟩, ⟨⟨_, rfl, (arr_app2 (splitT_step rfl (by omega)) (CoP.refl _) (CoP.of_eq (by exact congrArg (fun z => PV.raw (.int .u32 z)) (shl_one _))))⟩, u9, trivial⟩⟩
  ·
   have h1 := of_decide_eq_false r1
   try simp only [ty] at h1
   obtain rfl : k = (membs ((l.getD i default).rhs &&& ~~~(l.getD i default).lhs)).length := by omega
   refine hw_exit ?_; refine gy ?_; (iterate 2 refine qy ?_); refine rg_nil ?_; refine ⟨i + 1, ?_, ?_, ?_⟩
   · show i + 1 ≤ _; omega
   · first | omega | (dsimp only; omega)
   · exact ⟨⟨⟨_, rfl, (ref_same (splitT_end (by omega) rfl).symm)⟩, zy, c9, c9, trivial⟩, ⟨⟨_, rfl, (arr_same (splitT_end (by omega) rfl).symm)⟩, trivial⟩⟩
 ·
  have h0 := of_decide_eq_false r0
  try simp only [ty] at h0
  obtain rfl : i = l.length := by omega
  refine hw_exit ?_; refine hw_seq ?_; refine hw_freeze 3 rfl rfl rfl ?_; refine gy ?_; refine qy ?_
  refine rg_fcall rfl rfl rfl rfl rfl rfl good205 (cOnceH (splitL l) (Nat.le_trans (splitL_len l) (by omega))) (⟨CoP.of_eq (by rw [List.take_length]; rfl), trivial⟩) trivial rfl rfl ?_; refine qy ?_; refine rg_nil ?_
  refine hw_ret ?_; refine ⟨.inr rfl, ?_⟩
  exact ⟨_, _, rfl, (by (repeat' apply And.intro) <;> first | trivial | exact Nat.le_of_ble_eq_true rfl), CoR.refl _, ⟨u9, trivial⟩⟩
theorem good165 : goodFn Tryz.prog 165 := ⟨Tryz.f165, Tryz.func165, by kernel_rfl, by kernel_rfl⟩
theorem cMin (l : List Fd) (hl : l.length ≤ 4096) : HPure Tryz.prog 165 [pP (fdl l)] (prOf [pP (fdl (minS l))]) := by
 refine hpure_of (nt := 60) Tryzok Tryz.func165 rfl rfl l9 ?_; refine hw_seq ?_; refine gy ?_; refine qy ?_; refine rg_nil ?_; refine hw_seq ?_; refine gy ?_; refine qy ?_
 refine rg_fcall rfl rfl rfl rfl rfl rfl good203 (cSplitH l hl) (CoHCL.refl _) trivial rfl rfl ?_; refine qy ?_; refine rg_nil ?_; (iterate 2 refine hw_seq ?_)
 have hsl := spl_len l
 refine gy ?_; (iterate 3 refine qy ?_); refine rg_nil ?_; refine hw_block ?_
 refine hw_loopK (ι := Nat) ⟨[(3, some _), (11, some _)], []⟩ ⟨⟨c9, c9, trivial⟩, trivial⟩ (fun i => ⟨[(12, some (vI i))], [(900, some (.arr true 2 40 (spl l).length (lf Fd.c (redT (spl l) i))))]⟩) (fun i => i ≤ (spl l).length) (fun i => (spl l).length - i) (0) (Nat.zero_le _) ⟨⟨zy, trivial⟩, ⟨u9, trivial⟩⟩ ?_
 rintro i hi
 have htl := redT_len (l := spl l) (i := i)
 refine hw_seq ?_; refine gy ?_; refine qy ?_; refine rg_nil ?_; refine hw_seq ?_; refine hw_cond _ rfl (fun r0 => ?_) (fun r0 => ?_)
 ·
  have h0 := of_decide_eq_true r0
  try simp only [ty] at h0
  refine hw_skip ?_; refine hw_seq ?_; refine hw_block ?_; refine hw_seq ?_; refine gy ?_; (iterate 2 refine qy ?_); refine rg_nil ?_; refine hw_seq ?_; refine gy ?_; (iterate 5 refine qy ?_)
  refine rc rfl rfl rfl rfl rfl rfl good159 (cMem ((redT (spl l) i).getD i default).lhs) (CoL.refl _) rfl rfl ?_; (iterate 2 refine qy ?_); refine rg_nil ?_; refine hw_block ?_
  refine hw_loopK (ι := Nat) ⟨[(3, some _), (4, some _), (11, some _), (12, some _), (20, some _), (21, some _)], []⟩ ⟨⟨c9, c9, c9, c9, c9, c9, trivial⟩, trivial⟩ (fun k => ⟨[(22, some (vI k))], [(900, some (.arr true 2 40 (spl l).length (lf Fd.c (redK (redT (spl l) i) i k))))]⟩) (fun k => k ≤ (membs ((redT (spl l) i).getD i default).lhs).length) (fun k => (membs ((redT (spl l) i).getD i default).lhs).length - k) (0) (Nat.zero_le _) ⟨⟨zy, trivial⟩, ⟨⟨_, rfl, (arr_len (redK_zero _ _) rfl)⟩, trivial⟩⟩ ?_
  rintro k hk
  have hml := membs_le ((redT (spl l) i).getD i default).lhs
  refine hw_seq ?_; refine gy ?_; refine qy ?_; refine rg_nil ?_; refine hw_seq ?_; refine hw_cond _ rfl (fun r1 => ?_) (fun r1 => ?_)
  ·
   have h1 := of_decide_eq_true r1
   try simp only [ty] at h1
   have hkl : (redK (redT (spl l) i) i k).length = (spl l).length := by rw [redK_len, redT_len]
   have hhas := redK_has (l := (redT (spl l) i)) (i := i) (k := k) (by rw [redT_len]; omega) (by omega)
   refine hw_skip ?_; refine hw_seq ?_; refine hw_block ?_; refine hw_seq ?_; refine gy ?_; (iterate 3 refine qy ?_); refine rg_nil ?_; refine hw_seq ?_; refine gy ?_; (iterate 6 refine qy ?_)
   refine rc rfl rfl rfl rfl rfl rfl good204 (cExtra (redK (redT (spl l) i) i k) ((redK (redT (spl l) i) i k).getD i default) ((membs ((redT (spl l) i).getD i default).lhs).getD k default)) (⟨CoC.one (co_lenF (by rw [redK_len, redT_len])), CoC.refl _, CoC.refl _, trivial⟩) rfl rfl ?_
   refine rg_nil ?_; refine hw_cond _ rfl (fun r2 => ?_) (fun r2 => ?_)
   ·
    have h2 := r2
    refine hw_draw (E := TryzE) Tryzok Tryzmixed [0, 1, 2, 3, 4, 5, 6, 7, 8, 9, 10] ?_; (iterate 6 refine qy ?_); refine rq rfl rfl rfl rfl rfl ?_ (hp := (Int.natCast_nonneg _)); (iterate 3 refine qy ?_); refine s9 ?_
    refine rg_nil ?_; refine ⟨by kernel_rfl, ?_⟩; refine gy ?_; (iterate 2 refine qy ?_); refine rg_nil ?_
    first | (refine ⟨k + 1, ?_, ?_, ?_⟩
             · show k + 1 ≤ _; omega
             · first | omega | (dsimp only; omega)
             · exact ⟨⟨zy, c9, c9, c9, c9, c9, c9, trivial⟩, ⟨⟨_, rfl, (co_setF (i := i) (a := (membs ((redT (spl l) i).getD i default).lhs).getD k default) (l := (redK (redT (spl l) i) i k)) (by rw [redK_succ (by omega), redA_t hhas (by assumption)]) (and_shl _ _) (by omega) (by omega) hkl.symm)⟩, trivial⟩⟩)
          | (refine ⟨k + 1, ?_, ?_, ?_⟩
             · show k + 1 ≤ _; omega
             · first | omega | (dsimp only; omega)
             · exact ⟨⟨zy, c9, c9, c9, c9, c9, c9, trivial⟩, ⟨⟨_, rfl, (arr_len (by rw [redK_succ (by omega), redA_f (by assumption)]) rfl)⟩, trivial⟩⟩)
   ·
    have h2 := r2
    refine hw_skip ?_; refine gy ?_; (iterate 2 refine qy ?_); refine rg_nil ?_
    first | (refine ⟨k + 1, ?_, ?_, ?_⟩
             · show k + 1 ≤ _; omega
             · first | omega | (dsimp only; omega)
             · exact ⟨⟨zy, c9, c9, c9, c9, c9, c9, trivial⟩, ⟨⟨_, rfl, (co_setF (i := i) (a := (membs ((redT (spl l) i).getD i default).lhs).getD k default) (l := (redK (redT (spl l) i) i k)) (by rw [redK_succ (by omega), redA_t hhas (by assumption)]) (and_shl _ _) (by omega) (by omega) hkl.symm)⟩, trivial⟩⟩)
          | (refine ⟨k + 1, ?_, ?_, ?_⟩
             · show k + 1 ≤ _; omega
             · first | omega | (dsimp only; omega)
             · exact ⟨⟨zy, c9, c9, c9, c9, c9, c9, trivial⟩, ⟨⟨_, rfl, (arr_len (by rw [redK_succ (by omega), redA_f (by assumption)]) rfl)⟩, trivial⟩⟩)
  ·
   have h1 := of_decide_eq_false r1
   try simp only [ty] at h1
   obtain rfl : k = (membs ((redT (spl l) i).getD i default).lhs).length := by omega
   refine hw_exit ?_; refine gy ?_; (iterate 2 refine qy ?_); refine rg_nil ?_; refine ⟨i + 1, ?_, ?_, ?_⟩
   · show i + 1 ≤ _; omega
   · first | omega | (dsimp only; omega)
   · exact ⟨⟨zy, c9, c9, trivial⟩, ⟨⟨_, rfl, (arr_len (by rw [redT_succ, redK_end rfl]) rfl)⟩, trivial⟩⟩
 ·
  have h0 := of_decide_eq_false r0
  try simp only [ty] at h0
  obtain rfl : i = (spl l).length := by omega
  refine hw_exit ?_; refine hw_seq ?_; refine hw_freeze 3 rfl rfl rfl ?_; refine gy ?_; refine qy ?_
  refine rc rfl rfl rfl rfl rfl rfl good205 (cOnce (redT (spl l) (spl l).length) (by rw [redT_len]; omega)) (⟨CoC.one (co_lenF (by rw [redT_len])), trivial⟩) rfl rfl ?_; refine qy ?_; refine rg_nil ?_; (iterate 2 refine hw_seq ?_)
  have hrl := redAll_len l
  refine gy ?_; refine qy ?_; refine rg_nil ?_; refine hw_block ?_
  refine hw_loopK (ι := List Fd × Nat) ⟨[], []⟩ ⟨trivial, trivial⟩ (fun x => ⟨[(3, some (oneP (fdl x.1))), (7, some (vI x.2))], []⟩) (fun x => dropR (x.1.length - x.2) x.1 x.2 = minS l ∧ x.2 ≤ x.1.length ∧ x.1.length ≤ 131072) (fun x => x.1.length - x.2) ((redAll l, 0)) (⟨rfl, Nat.zero_le _, by show (redAll l).length ≤ _; omega⟩) ⟨⟨zy, ⟨_, rfl, (coi rfl)⟩, trivial⟩, trivial⟩ ?_
  rintro x ⟨hx, hx2, hx3⟩
  (iterate 2 refine hw_seq ?_); refine gy ?_; (iterate 4 refine qy ?_); refine rg_nil ?_; refine hw_cond _ rfl (fun r3 => ?_) (fun r3 => ?_)
  ·
   have h3 := of_decide_eq_true r3
   try simp only [ty] at h3
   refine hw_skip ?_; refine hw_block ?_; refine hw_seq ?_; refine gy ?_; (iterate 2 refine qy ?_); refine rc rfl rfl rfl rfl rfl rfl good206 (cRedun x.1 x.2 (by omega) (by omega)) (CoL.refl _) rfl rfl ?_; refine rg_nil ?_
   refine hw_cond _ rfl (fun r4 => ?_) (fun r4 => ?_)
   ·
    have h4 := r4
    have hq := r4
    refine gy ?_; (iterate 2 refine qy ?_); refine rc rfl rfl rfl rfl rfl rfl good207 (cOthers x.1 x.2 (by omega) (by omega)) (CoL.refl _) rfl rfl ?_; refine qy ?_; refine rg_nil ?_
    first | (refine ⟨(othersL x.1 x.2, x.2), ?_, ?_, ?_⟩
             · have ho := othersL_len (l := x.1) (i := x.2) (by omega)
               exact ⟨by rw [← hx, dropR_t (by omega) hq], by dsimp only; omega, by dsimp only; omega⟩
             · have ho := othersL_len (l := x.1) (i := x.2) (by omega)
               dsimp only; omega
             · exact ⟨⟨zy, ⟨_, rfl, (coi (by first | rfl | (dsimp only; omega)))⟩, trivial⟩, trivial⟩)
          | (refine ⟨(x.1, x.2 + 1), ?_, ?_, ?_⟩
             · exact ⟨by rw [← hx, dropR_f (by omega) hq], by dsimp only; omega, by dsimp only; omega⟩
             · first | omega | (dsimp only; omega)
             · exact ⟨⟨zy, ⟨_, rfl, (coi (by first | rfl | (dsimp only; omega)))⟩, trivial⟩, trivial⟩)
   ·
    have h4 := r4
    have hq := r4
    refine gy ?_; (iterate 3 refine qy ?_); refine rg_nil ?_
    first | (refine ⟨(othersL x.1 x.2, x.2), ?_, ?_, ?_⟩
             · have ho := othersL_len (l := x.1) (i := x.2) (by omega)
               exact ⟨by rw [← hx, dropR_t (by omega) hq], by dsimp only; omega, by dsimp only; omega⟩
             · have ho := othersL_len (l := x.1) (i := x.2) (by omega)
               dsimp only; omega
             · exact ⟨⟨zy, ⟨_, rfl, (coi (by first | rfl | (dsimp only; omega)))⟩, trivial⟩, trivial⟩)
          | (refine ⟨(x.1, x.2 + 1), ?_, ?_, ?_⟩
             · exact ⟨by rw [← hx, dropR_f (by omega) hq], by dsimp only; omega, by dsimp only; omega⟩
             · first | omega | (dsimp only; omega)
             · exact ⟨⟨zy, ⟨_, rfl, (coi (by first | rfl | (dsimp only; omega)))⟩, trivial⟩, trivial⟩)
  ·
   have h3 := of_decide_eq_false r3
   try simp only [ty] at h3
   have hq := h3
   refine hw_exit ?_; refine hw_seq ?_; refine gy ?_; (iterate 2 refine qy ?_); refine rg_nil ?_; refine hw_ret ?_; refine ⟨.inr rfl, ?_⟩
   exact f9 rfl rfl (⟨CoC.one (CoP.of_eq (by rw [← hx, dropR_end (by omega)])), trivial⟩)
end Go.Hx
end
section
namespace Go.Hx
def minE (n : Int) (l : List Fd) : List Fd := if vErr n l = 0 then minS l else []
theorem minE_t {n : Int} {l : List Fd} (h : vErr n l = 0) : minE n l = minS l := if_pos h
theorem minE_f {n : Int} {l : List Fd} (h : ¬ vErr n l = 0) : minE n l = [] := if_neg h
theorem nilF {s : Nat} {cl : Bool} {f : Nat → Nat → PV} {L : List Fd} (h : L = []) : CoP (.sl 0 s cl f) (fdl L) := by subst h; exact co_nil
theorem nilS {s : Nat} {cl : Bool} {f : Nat → Nat → PV} {L : List AS} (h : L = []) : CoP (.sl 0 s cl f) (asl L) := by subst h; exact co_nil
def redR (l : List Fd) (i k : Nat) : List Fd := (List.range k).foldl (redA i) l
end Go.Hx
end
section
namespace Go.Hx
open Go.Proofs
set_option maxRecDepth 100000
theorem good115 : goodFn Tryz.prog 115 := ⟨Tryz.f115, Tryz.func115, by kernel_rfl, by kernel_rfl⟩
theorem cCMin (n : Int) (l : List Fd) : HPure Tryz.prog 115 [pI n, pP (fdl l)] (prOf [pP (fdl (minE n l)), pI (vErr n l)]) := by
 refine hpure_of (nt := 15) Tryzok Tryz.func115 rfl rfl l9 ?_; refine hw_seq ?_; refine gy ?_; (iterate 2 refine qy ?_); refine rg_nil ?_; (iterate 2 refine hw_seq ?_); refine gy ?_; (iterate 2 refine qy ?_)
 refine rc rfl rfl rfl rfl rfl rfl good82 (cValid n l) (CoL.refl _) rfl rfl ?_; refine qy ?_; refine rg_nil ?_; refine hw_seq ?_; refine gy ?_; (iterate 2 refine qy ?_); refine rg_nil ?_
 refine hw_cond _ rfl (fun r0 => ?_) (fun r0 => ?_)
 ·
  have h0 := r0
  have h0 := of_decide_eq_false (not_t h0)
  try simp only [ty] at h0
  refine hw_seq ?_; refine gy ?_; (iterate 3 refine qy ?_); refine rg_nil ?_; refine hw_ret ?_; refine ⟨.inr rfl, ?_⟩
  exact f9 rfl rfl (⟨CoC.one (nilF (minE_f (by assumption))), CoC.refl _, trivial⟩)
 ·
  have h0 := r0
  have h0 := of_decide_eq_true (not_f h0)
  try simp only [ty] at h0
  refine hw_skip ?_; refine hw_seq ?_; refine gy ?_; refine qy ?_; refine rc rfl rfl rfl rfl rfl rfl good165 (cMin l (by have := (vErr_ok (by assumption)).2.2.1; omega)) (CoL.refl _) rfl rfl ?_; (iterate 2 refine qy ?_)
  refine rg_nil ?_; refine hw_ret ?_; refine ⟨.inr rfl, ?_⟩
  exact f9 rfl rfl (⟨CoC.one (CoP.of_eq (by rw [minE_t (by assumption)])), cci (by omega), trivial⟩)
end Go.Hx
end
section
namespace Go.Hx
theorem and_halves (a b : Nat) : a &&& b = 2 * (a / 2 &&& b / 2) + (a % 2 &&& b % 2) := by
 have h1 := Nat.div_add_mod (a &&& b) 2
 have h2 : (a &&& b) % 2 = a % 2 &&& b % 2 := by
  have := Nat.and_mod_two_pow (a := a) (b := b) (n := 1)
  simpa using this
 rw [Nat.and_div_two, h2] at h1
 exact h1.symm
theorem bit_and (a b : Nat) : (a % 2 &&& b % 2) = if a % 2 = 1 ∧ b % 2 = 1 then 1 else 0 := by
 rcases Nat.mod_two_eq_zero_or_one a with h | h <;> rcases Nat.mod_two_eq_zero_or_one b with k | k <;> rw [h, k] <;> rfl
theorem in_halves {x s : Nat} (h : x &&& s = x) : (x / 2 &&& s / 2 = x / 2) ∧ (x % 2 = 1 → s % 2 = 1) := by
 have h1 := and_halves x s
 rw [h, bit_and] at h1
 split at h1 <;> rename_i hc
 · exact ⟨by omega, fun _ => hc.2⟩
 · exact ⟨by omega, fun hx => by omega⟩
theorem pred_top : ∀ (x s z : Nat), x &&& s = x → z &&& s = z → z < x → z ≤ ((x - 1) &&& s) := by
 intro x
 induction x using Nat.strongRecOn with
 | _ x ih =>
  intro s z hx hz hlt
  obtain ⟨x1, x2⟩ := in_halves hx
  obtain ⟨z1, z2⟩ := in_halves hz
  rw [and_halves (x - 1) s, bit_and]
  rcases Nat.mod_two_eq_zero_or_one x with hb | hb
  · have e1 : (x - 1) / 2 = x / 2 - 1 := by omega
    have e2 : (x - 1) % 2 = 1 := by omega
    have := ih (x / 2) (by omega) (s / 2) (z / 2) x1 z1 (by omega)
    rw [e1, e2]
    by_cases hs : s % 2 = 1
    · rw [if_pos ⟨rfl, hs⟩]; omega
    · rw [if_neg (fun h => hs h.2)]
      have : z % 2 = 0 := by omega
      omega
  · have e1 : (x - 1) / 2 = x / 2 := by omega
    have e2 : (x - 1) % 2 = 0 := by omega
    rw [e1, e2, x1, if_neg (by omega)]
    omega
theorem comp_in : ∀ (w y s : Nat), y &&& s = y → s < 2 ^ w → ((2 ^ w - 1 - y) &&& s) = s - y := by
 intro w
 induction w with
 | zero => intro y s h hs; obtain rfl : s = 0 := (by simpa using hs); simp
 | succ w ih =>
  intro y s h hs
  obtain ⟨y1, y2⟩ := in_halves h
  have hle : y ≤ s := by rw [← h]; exact Nat.and_le_right
  rw [Nat.pow_succ] at hs ⊢
  have hp := Nat.two_pow_pos w
  have := ih (y / 2) (s / 2) y1 (by omega)
  have hle2 : y / 2 ≤ s / 2 := by omega
  rw [and_halves, bit_and, show (2 ^ w * 2 - 1 - y) / 2 = 2 ^ w - 1 - y / 2 by omega, this]
  split <;> omega
theorem sub_in {y s : Nat} (h : y &&& s = y) : (s - y) &&& s = s - y := by
 rw [← comp_in s y s h Nat.lt_two_pow_self, Nat.and_assoc, Nat.and_self]
theorem next_eq {w x s : Nat} (hx : x &&& s = x) (hs : s < 2 ^ w) (hne : x < s) : ((2 ^ w + x - s) &&& s) = s - ((s - x - 1) &&& s) := by
 have h1 : ((s - x - 1) &&& s) &&& s = (s - x - 1) &&& s := by rw [Nat.and_assoc, Nat.and_self]
 rw [← comp_in w _ s h1 hs]
 have hp := Nat.two_pow_pos w
 apply Nat.eq_of_testBit_eq
 intro i
 have hlt : s - x - 1 < 2 ^ w := by omega
 have hlt2 : ((s - x - 1) &&& s) < 2 ^ w := Nat.lt_of_le_of_lt Nat.and_le_left hlt
 rw [Nat.testBit_and, Nat.testBit_and, show 2 ^ w + x - s = 2 ^ w - (s - x - 1 + 1) by omega, Nat.testBit_two_pow_sub_succ hlt, show 2 ^ w - 1 - ((s - x - 1) &&& s) = 2 ^ w - (((s - x - 1) &&& s) + 1) by omega, Nat.testBit_two_pow_sub_succ hlt2, Nat.testBit_and]
 cases s.testBit i <;> simp
theorem next_top {w x s z : Nat} (hx : x &&& s = x) (hs : s < 2 ^ w) (hz : z &&& s = z) (hlt : x < z) : ((2 ^ w + x - s) &&& s) ≤ z ∧ x < ((2 ^ w + x - s) &&& s) := by
 have hzs : z ≤ s := by rw [← hz]; exact Nat.and_le_right
 rw [next_eq hx hs (by omega)]
 have h1 := pred_top (s - x) s (s - z) (sub_in hx) (sub_in hz) (by omega)
 have h2 : ((s - x - 1) &&& s) ≤ s - x - 1 := Nat.and_le_left
 omega
theorem subN {z s : AS} : sub z s ↔ z.toNat &&& s.toNat = z.toNat := by
 rw [← BitVec.toNat_and, BitVec.toNat_inj, sub_bit]
 constructor
 · intro h
   apply BitVec.eq_of_getLsbD_eq
   intro k hk
   rw [BitVec.getLsbD_and]
   cases hz : z.getLsbD k with
   | false => rfl
   | true => rw [h k hk hz]; rfl
 · intro h i _ hi
   rw [← h, BitVec.getLsbD_and] at hi
   simp at hi
   exact hi.2
theorem sub_bsz {z s : AS} (h : sub z s) : bsz z ≤ bsz s := by
 unfold bsz
 apply List.countP_mono_left
 intro i hi hb
 exact sub_bit.1 h i (List.mem_range.1 hi) hb
def downS (s : AS) : Nat → AS → List AS
 | 0, _ => []
 | n + 1, x => x :: if x = 0 then [] else downS s n ((x - 1) &&& s)
theorem pred_nat {x : AS} (h : x ≠ 0) : (x - 1).toNat = x.toNat - 1 := by
 have h0 : x.toNat ≠ 0 := fun e => h (BitVec.eq_of_toNat_eq e)
 have := x.isLt
 rw [BitVec.toNat_sub]
 show (2 ^ 32 - 1 + x.toNat) % 2 ^ 32 = _
 omega
theorem pred_sub {x s : AS} : sub ((x - 1) &&& s) s := by
 rw [subN, BitVec.toNat_and, Nat.and_assoc, Nat.and_self]
theorem pred_lt {x s : AS} (h : x ≠ 0) : ((x - 1) &&& s).toNat < x.toNat := by
 have h0 : x.toNat ≠ 0 := fun e => h (BitVec.eq_of_toNat_eq e)
 rw [BitVec.toNat_and, pred_nat h]
 have : ((x.toNat - 1) &&& s.toNat) ≤ x.toNat - 1 := Nat.and_le_left
 omega
theorem pred_max {x s z : AS} (hx : sub x s) (hz : sub z s) (h : z.toNat < x.toNat) : z.toNat ≤ ((x - 1) &&& s).toNat := by
 have h0 : x ≠ 0 := fun e => by subst e; exact absurd h (Nat.not_lt_zero _)
 rw [BitVec.toNat_and, pred_nat h0]
 exact pred_top _ _ _ (subN.1 hx) (subN.1 hz) h
theorem mem_down {s : AS} : ∀ (n : Nat) (x : AS), sub x s → x.toNat < n → ∀ z, z ∈ downS s n x ↔ sub z s ∧ z.toNat ≤ x.toNat
 | 0, x, _, h, z => absurd h (Nat.not_lt_zero _)
 | n + 1, x, hx, h, z => by
  unfold downS
  by_cases h0 : x = 0
  · rw [if_pos h0, List.mem_singleton]
    subst h0
    constructor
    · rintro rfl; exact ⟨hx, Nat.le_refl _⟩
    · rintro ⟨_, h⟩
      exact BitVec.eq_of_toNat_eq (Nat.le_antisymm h (Nat.zero_le _))
  · rw [if_neg h0, List.mem_cons, mem_down n _ pred_sub (by have := pred_lt (s := s) h0; omega)]
    constructor
    · rintro (rfl | ⟨h1, h2⟩)
      · exact ⟨hx, Nat.le_refl _⟩
      · have := pred_lt (s := s) h0
        exact ⟨h1, by omega⟩
    · rintro ⟨h1, h2⟩
      by_cases he : z = x
      · exact .inl he
      · have hne : z.toNat ≠ x.toNat := fun e => he (BitVec.eq_of_toNat_eq e)
        exact .inr ⟨h1, pred_max hx h1 (by omega)⟩
def subsL (s : AS) : List AS := ord (downS s (s.toNat + 1) s)
theorem sub_self (s : AS) : sub s s := by rw [subN, Nat.and_self]
theorem subLe {z s : AS} (h : sub z s) : z.toNat ≤ s.toNat := by rw [← subN.1 h]; exact Nat.and_le_right
theorem mem_subsL {s z : AS} : z ∈ subsL s ↔ sub z s := by
 unfold subsL
 rw [mem_ord, mem_down _ _ (sub_self s) (Nat.lt_succ_self _)]
 exact ⟨fun h => h.1, fun h => ⟨h, subLe h⟩⟩
theorem subsL_eq {l : List AS} {s : AS} (ho : Ordd l) (h : ∀ z, z ∈ l ↔ sub z s) : l = subsL s := ordd_unique ho (ordd_ord _) fun z => by rw [h z]; exact mem_subsL.symm
def subsC (s : AS) : List AS := if 12 < bsz s then [] else subsL s
theorem subsC_t {s : AS} (h : (12 : Int) < bsz s) : subsC s = [] := if_pos (by omega)
theorem subsC_f {s : AS} (h : ¬ (12 : Int) < bsz s) : subsC s = subsL s := if_neg (by omega)
def DownI (s : AS) (y : List AS × AS) : Prop := sub y.2 s ∧ y.1.length + y.2.toNat ≤ s.toNat + 1 ∧ ∀ z, z ∈ y.1 ↔ sub z s ∧ y.2.toNat ≤ z.toNat
theorem down_zero (s : AS) : DownI s ([s], s) := ⟨sub_self s, by simp only [List.length_singleton]; omega, fun z => by
 rw [List.mem_singleton]
 constructor
 · rintro rfl; exact ⟨sub_self _, Nat.le_refl _⟩
 · rintro ⟨h1, h2⟩; exact BitVec.eq_of_toNat_eq (Nat.le_antisymm (subLe h1) h2)⟩
theorem down_next {s : AS} {y : List AS × AS} (h : DownI s y) (h0 : y.2 ≠ 0) : DownI s (y.1 ++ [(y.2 - 1) &&& s], (y.2 - 1) &&& s) := by
 obtain ⟨h1, h2, h3⟩ := h
 have hl := pred_lt (s := s) h0
 refine ⟨pred_sub, by simp only [List.length_append, List.length_singleton]; omega, fun z => ?_⟩
 rw [List.mem_append, List.mem_singleton, h3]
 constructor
 · rintro (⟨k1, k2⟩ | rfl)
   · exact ⟨k1, by dsimp only; omega⟩
   · exact ⟨pred_sub, Nat.le_refl _⟩
 · rintro ⟨k1, k2⟩
   dsimp only at k2
   by_cases hz : y.2.toNat ≤ z.toNat
   · exact .inl ⟨k1, hz⟩
   · have := pred_max h1 k1 (by omega)
     exact .inr (BitVec.eq_of_toNat_eq (by omega))
theorem down_end {s : AS} {y : List AS × AS} (h : DownI s y) (h0 : y.2 = 0) : ord y.1 = subsL s := subsL_eq (ordd_ord _) fun z => by
 rw [mem_ord, h.2.2, h0]
 exact ⟨fun h => h.1, fun h => ⟨h, Nat.zero_le _⟩⟩
def nxt (x s : Nat) : Nat := if x = s then s + 1 else ((2 ^ 64 + x - s) &&& s)
def UpI (s : AS) (k : Nat) (y : List AS × Nat) : Prop :=
 (y.2 = s.toNat + 1 ∨ y.2 &&& s.toNat = y.2) ∧ y.1.length ≤ k * 4294967296 + y.2 ∧ Ordd y.1 ∧ ∀ z, z ∈ y.1 ↔ sub z s ∧ (bsz z < k ∨ bsz z = k ∧ z.toNat < y.2)
theorem nxt_step {x s : Nat} (hs : s < 2 ^ 32) (hx : x &&& s = x) : x < nxt x s ∧ (nxt x s = s + 1 ∨ nxt x s &&& s = nxt x s) ∧ ∀ z, z &&& s = z → x < z → nxt x s ≤ z := by
 have hle : x ≤ s := by rw [← hx]; exact Nat.and_le_right
 have hs' : s < 2 ^ 64 := Nat.lt_trans hs (by decide)
 unfold nxt
 by_cases he : x = s
 · rw [if_pos he]
   refine ⟨by omega, .inl rfl, fun z hz hlt => ?_⟩
   have : z ≤ s := by rw [← hz]; exact Nat.and_le_right
   omega
 · rw [if_neg he]
   refine ⟨(next_top hx hs' (Nat.and_self s) (by omega)).2, .inr (by rw [Nat.and_assoc, Nat.and_self]), fun z hz hlt => (next_top hx hs' hz hlt).1⟩
theorem up_in {s : AS} {k : Nat} {y : List AS × Nat} (h : UpI s k y) (hy : y.2 ≤ s.toNat) : y.2 &&& s.toNat = y.2 := by
 rcases h.1 with h | h
 · omega
 · exact h
theorem up_lt {s : AS} {k : Nat} {y : List AS × Nat} (h : UpI s k y) : y.2 ≤ s.toNat + 1 := by
 rcases h.1 with h | h
 · omega
 · have : y.2 ≤ s.toNat := by rw [← h]; exact Nat.and_le_right
   omega
theorem up_nat {s : AS} {k : Nat} {y : List AS × Nat} (h : UpI s k y) (hy : y.2 ≤ s.toNat) : (BitVec.ofNat 32 y.2).toNat = y.2 := by
 have := s.isLt
 rw [BitVec.toNat_ofNat, Nat.mod_eq_of_lt (by omega)]
theorem up_t {s : AS} {k : Nat} {y : List AS × Nat} (h : UpI s k y) (hy : y.2 ≤ s.toNat) (hk : bsz (BitVec.ofNat 32 y.2) = k) : UpI s k (y.1 ++ [BitVec.ofNat 32 y.2], nxt y.2 s.toNat) := by
 have hn := up_nat h hy
 obtain ⟨s1, s2, s3⟩ := nxt_step s.isLt (up_in h hy)
 have hsub : sub (BitVec.ofNat 32 y.2) s := subN.2 (by rw [hn]; exact up_in h hy)
 obtain ⟨h1, h2, h3, h4⟩ := h
 refine ⟨s2, by simp only [List.length_append, List.length_singleton]; omega, ?_, fun z => ?_⟩
 · refine List.pairwise_append.2 ⟨h3, List.pairwise_singleton _ _, fun a ha b hb => ?_⟩
   rw [List.mem_singleton] at hb
   subst hb
   rw [bef_iff]
   have := ((h4 a).1 ha).2
   omega
 · rw [List.mem_append, List.mem_singleton, h4]
   dsimp only
   constructor
   · rintro (⟨k1, k2⟩ | rfl)
     · exact ⟨k1, by omega⟩
     · exact ⟨hsub, .inr ⟨hk, by omega⟩⟩
   · rintro ⟨k1, k2 | ⟨k2, k3⟩⟩
     · exact .inl ⟨k1, .inl k2⟩
     · by_cases hz : z.toNat < y.2
       · exact .inl ⟨k1, .inr ⟨k2, hz⟩⟩
       · by_cases hz2 : y.2 < z.toNat
         · have := s3 z.toNat (subN.1 k1) hz2
           omega
         · exact .inr (BitVec.eq_of_toNat_eq (by omega))
theorem up_f {s : AS} {k : Nat} {y : List AS × Nat} (h : UpI s k y) (hy : y.2 ≤ s.toNat) (hk : bsz (BitVec.ofNat 32 y.2) ≠ k) : UpI s k (y.1, nxt y.2 s.toNat) := by
 have hn := up_nat h hy
 obtain ⟨s1, s2, s3⟩ := nxt_step s.isLt (up_in h hy)
 obtain ⟨h1, h2, h3, h4⟩ := h
 refine ⟨s2, by dsimp only; omega, h3, fun z => ?_⟩
 rw [h4]
 dsimp only
 constructor
 · rintro ⟨k1, k2⟩
   exact ⟨k1, by omega⟩
 · rintro ⟨k1, k2 | ⟨k2, k3⟩⟩
   · exact ⟨k1, .inl k2⟩
   · by_cases hz : z.toNat < y.2
     · exact ⟨k1, .inr ⟨k2, hz⟩⟩
     · by_cases hz2 : y.2 < z.toNat
       · have := s3 z.toNat (subN.1 k1) hz2
         omega
       · have e : z = BitVec.ofNat 32 y.2 := BitVec.eq_of_toNat_eq (by omega)
         exact absurd (e ▸ k2) hk
def UpK (s : AS) (k : Nat) (l : List AS) : Prop := l.length ≤ k * 4294967296 ∧ Ordd l ∧ ∀ z, z ∈ l ↔ sub z s ∧ bsz z < k
theorem upk_zero (s : AS) : UpK s 0 [] := by
 refine ⟨?_, List.Pairwise.nil, fun z => ?_⟩
 · show 0 ≤ _
   exact Nat.zero_le _
 · constructor
   · intro h; cases h
   · rintro ⟨_, h⟩; omega
theorem upk_in {s : AS} {k : Nat} {l : List AS} (h : UpK s k l) : UpI s k (l, 0) := by
 obtain ⟨h1, h2, h3⟩ := h
 unfold UpI
 dsimp only
 refine ⟨.inr (Nat.zero_and _), Nat.le_trans h1 (Nat.le_add_right _ _), h2, fun z => ?_⟩
 rw [h3]
 constructor
 · rintro ⟨a, b⟩
   exact ⟨a, .inl b⟩
 · rintro ⟨a, b | ⟨_, b⟩⟩
   · exact ⟨a, b⟩
   · exact absurd b (Nat.not_lt_zero _)
theorem upk_out {s : AS} {k : Nat} {y : List AS × Nat} (h : UpI s k y) (hy : ¬ y.2 ≤ s.toNat) : UpK s (k + 1) y.1 := by
 have h0 := up_lt h
 have := s.isLt
 obtain ⟨h1, h2, h3, h4⟩ := h
 refine ⟨by rw [Nat.add_mul]; omega, h3, fun z => ?_⟩
 rw [h4]
 constructor
 · rintro ⟨k1, k2⟩
   exact ⟨k1, by omega⟩
 · rintro ⟨k1, k2⟩
   have := subLe k1
   exact ⟨k1, by omega⟩
theorem upk_end {s : AS} {k : Nat} {l : List AS} (h : UpK s k l) (hk : bsz s < k) : l = subsL s := subsL_eq h.2.1 fun z => by
 rw [h.2.2]
 exact ⟨fun h => h.1, fun h => ⟨h, by have := sub_bsz h; omega⟩⟩
abbrev pU (n : Nat) : PC := .one (.raw (.int .u64 (n : Int)))
abbrev vU (n : Nat) : HR := oneP (.raw (.int .u64 (n : Int)))
theorem wrap_u64 (n : Int) : IntKind.wrap .u64 n = n % 18446744073709551616 := by
 simp [IntKind.wrap, IntKind.signed, IntKind.bits]
theorem nxt_ne {x s : Nat} (hs : s < 4294967296) (hx : x ≤ s) (h : ¬ (x : Int) = s) {a : Int} (ha : a = IntKind.wrap .u64 ((x : Int) - s) ∨ a = (x : Int) - s) : bitV .and .u64 a s = (nxt x s : Nat) := by
 unfold nxt
 rw [if_neg (by omega)]
 show IntKind.wrap .u64 ((BitVec.ofInt 64 a &&& BitVec.ofInt 64 s).toNat : Int) = _
 have e1 : (BitVec.ofInt 64 a).toNat = 2 ^ 64 + x - s := by
  rw [BitVec.toNat_ofInt]
  rcases ha with rfl | rfl
  · rw [wrap_u64]
    omega
  · omega
 have e2 : (BitVec.ofInt 64 (s : Int)).toNat = s := by
  rw [BitVec.toNat_ofInt]
  omega
 have h2 : ((2 ^ 64 + x - s) &&& s) ≤ s := Nat.and_le_right
 rw [BitVec.toNat_and, e1, e2, wrap_u64]
 omega
theorem nxt_eq {x s : Nat} (hs : s < 4294967296) (h : (x : Int) = s) : (s : Int) + 1 = (nxt x s : Nat) := by
 unfold nxt
 rw [if_pos (by omega)]
 omega
theorem pred_and {x s : AS} (h : x ≠ 0) : bitV .and .u32 (asI x - 1) (asI s) = asI ((x - 1) &&& s) := by rw [pred_v h, bAnd]
theorem arr_lit1 {α : Type} [Inhabited α] {wr wr' : Bool} {e : TypeId} {c : α → Nat → PV} {x : α} {f : Nat → Nat → PV} (h : CoP (f 0 0) (c x 0)) (hw : wr' = true → wr = true := by exact fun h => h) : CoO (.arr wr 1 e 1 f) (.arr wr' 1 e [x].length (lf c [x])) :=
 ⟨hw, rfl, rfl, rfl, fun i j hi hj => by
  have hi : i < 1 := hi
  have hj : j < 1 := hj
  obtain rfl : j = 0 := by omega
  obtain rfl : i = 0 := by omega
  exact h⟩
theorem set_u64 {n : Nat} (h : n < 4294967296) : (n : Int) = asI (BitVec.ofNat 32 n) := by
 unfold asI
 rw [BitVec.toNat_ofNat]
 omega
end Go.Hx
end
