/- A part of the proof: B1 Cs20 V18 Cs21 V19 Cs22 V20 Cs23. -/
import Derived.Test.YtidophngianjiaaGreatDoor6x15
import Derived.Test.YtidophngianjiaaGreatDoor6x23
set_option linter.all false
section
namespace Go.Hx
open Go.Proofs
set_option maxRecDepth 100000
theorem avf : goodFn Tryz.prog 70 := ⟨Tryz.f70, Tryz.func70, by kernel_rfl, by kernel_rfl⟩
theorem au7 : goodFn Tryz.prog 125 := ⟨Tryz.f125, Tryz.func125, by kernel_rfl, by kernel_rfl⟩
theorem c74 (n : Nat) (cl : Bool) (f : Nat → Nat → PV) : ah Tryz.prog 70 [.one (.sl n 1 cl f)] (ap [.one (.fn 125 1 fun _ => .vp 1 fun _ => .sl n 1 cl f)]) := by
 refine ag (nt := 4) af Tryz.func70 rfl rfl l9 ?_; refine sx7 ?_; refine m9 0 ?_; refine qy ?_; refine a6 ?_; refine a7 ?_; refine d1 1 rfl rfl rfl ?_; refine gy ?_; (iterate 2 refine qy ?_)
 refine a6 ?_; refine am ?_; refine ⟨.inr rfl, ?_⟩
 exact ⟨_, _, _, _, rfl, (by (repeat' apply And.intro) <;> trivial), rfl, (by (repeat' apply And.intro) <;> trivial), ⟨CoC.one (CoP.fn rfl fun i hi => by
  obtain rfl : i = 0 := by simpa using hi
  exact CoP.vp rfl fun j hj => by
   obtain rfl : j = 0 := by simpa using hj
   exact CoP.refl _), trivial⟩⟩
theorem ay0 (n : Nat) (cl : Bool) (f : Nat → Nat → PV) (hn : n ≤ 68719476736) :
 apk Tryz.prog 125 [.one (.vp 1 fun _ => .sl n 1 cl f)] n fun i => [.one (.raw (.int .i64 ((n - 1 - i : Nat) : Int))), .one (f (n - 1 - i) 0)] := by
 intro imm htab us W l J hcaps him hJb hY h0
 haveI : TabC imm := ⟨htab⟩
 refine callsIn_of_wp Tryz.func125 rfl trivial ?_ rfl
 have e0 : #[Value.func (.yield l) #[] #[]] ++ us.toArray = (Value.func (.yield l) #[] #[] :: us).toArray := by simp
 rw [e0]
 have hst := ame (A := W) (nt := 19) (us := Value.func (.yield l) #[] #[] :: us) (args := [.one (.raw (.func (.yield l) #[] #[])), .one (.vp 1 fun _ => .sl n 1 cl f)]) (him 0 W h0) ⟨⟨rfl, rfl⟩, hcaps⟩ l9
 refine wpIn_seq (wpIn_region ?_); refine iq (E := b4) af hst rfl rfl rfl rfl rfl rfl (fun a h1 => ?_); refine iq (E := b4) af h1 rfl rfl rfl rfl rfl rfl (fun a h2 => ?_)
 refine iq (E := b4) af h2 rfl rfl rfl rfl rfl rfl (fun a h3 => ?_); refine iq (E := b4) af h3 rfl rfl rfl rfl rfl rfl (fun a h4 => ?_)
 show Code.wpIn _ _ _ _ _ _ _
 refine wpIn_block ?_
 refine a09 (fun m a A => ∃ i, i ≤ n ∧ m = n - i ∧ J i A ∧ It imm 19 [(0, some (bu (.raw (.func (.yield l) #[] #[])))), (1, some (bu (.vp 1 fun _ => .sl n 1 cl f))), (3, some (bu (.raw (.int .i64 ((n : Int) - 1 - i)))))] a A) n ⟨0, Nat.zero_le _, by omega, h0, h4.sub ⟨c9, c9, ⟨_, rfl, coi (by omega)⟩, trivial⟩⟩ ?_
 rintro m a A ⟨i, hi, rfl, hJ, h⟩
 refine wpIn_seq ?_; refine wpIn_seq (wpIn_region ?_); refine iq (E := b4) af h rfl rfl rfl rfl rfl rfl (fun a h1 => ?_); refine iq (E := b4) af h1 rfl rfl rfl rfl rfl rfl (fun a h2 => ?_)
 show Code.wpIn _ _ _ _ _ _ _
 refine wpIn_cond_split (wc (x := .tmp 8) h2 rfl).1 (fun hb => ?_) (fun hb => ?_)
 · have hb := of_decide_eq_true hb
   have hin : i < n := by omega
   refine wpIn_skip ?_
   show Code.wpIn _ _ _ _ _ _ _
   refine wpIn_seq (wpIn_block ?_); refine wpIn_seq (wpIn_region ?_); refine iq (E := b4) af h2 rfl rfl rfl rfl rfl rfl (fun a h3 => ?_); refine iq (E := b4) af h3 rfl rfl rfl rfl rfl rfl (fun a h4 => ?_)
   refine iq (E := b4) af h4 rfl rfl rfl rfl rfl rfl (fun a h5 => ?_); refine iq (E := b4) af h5 rfl rfl rfl rfl rfl rfl (fun a h6 => ?_)
   refine iq (E := b4) af h6 rfl rfl rfl rfl rfl rfl (fun a h7 => ?_) (hp := ⟨rfl, by omega, by omega⟩); refine iq (E := b4) af h7 rfl rfl rfl rfl rfl rfl (fun a h8 => ?_)
   have ei : ((n : Int) - 1 - i).toNat = n - 1 - i := by omega
   have e12 := wc (x := .tmp 12) h8 rfl
   rw [show bu (.raw (.int .i64 ((n : Int) - 1 - i))) = bu (.raw (.int .i64 ((n - 1 - i : Nat) : Int))) by congr 3; omega] at e12
   have e16 := wc (x := .tmp 16) h8 rfl
   rw [ei] at e16
   have e16 := fm.of_H (x := .one (f (n - 1 - i) 0)) e16
   refine iy h8 rfl rfl rfl rfl rfl rfl (R := J (i + 1)) (hY i A [_, _] hin hJ ⟨e12, e16, trivial⟩) (fun A' => him (i + 1) A') (fun a A1 hJ1 h9 => ?_); refine iq (E := b4) af h9 rfl rfl rfl rfl rfl rfl (fun a h10 => ?_)
   show Code.wpIn _ _ _ _ _ _ _
   refine wpIn_cond_false (wc (x := .tmp 18) h10 rfl).1 (wpIn_skip ?_)
   show Code.wpIn _ _ _ _ _ _ _
   refine wpIn_region ?_; refine iq (E := b4) af h10 rfl rfl rfl rfl rfl rfl (fun a h11 => ?_); refine iq (E := b4) af h11 rfl rfl rfl rfl rfl rfl (fun a h12 => ?_)
   refine iq (E := b4) af h12 rfl rfl rfl rfl rfl rfl (fun a h13 => ?_)
   exact ⟨n - (i + 1), by omega, i + 1, hin, rfl, hJ1, h13.sub ⟨c9, c9, ⟨_, rfl, coi (by omega)⟩, trivial⟩⟩
 · have hb := of_decide_eq_false hb
   obtain rfl : i = n := by omega
   refine wpIn_exit ?_
   exact ⟨h2.defers, _, results_none rfl _ _ _, ⟨_, rfl⟩, hJ⟩
end Go.Hx
end
section
namespace Go.Hx
theorem au9 {l : List AS} {k n p j m c d e : Nat} {z : List Value} {cl : Bool} (hk : k < l.length) (hn : n = l.length - 1) (hp : p = k) (hj : j = k + 1) (hm : m = l.length - (k + 1)) (hc : l.length - 1 ≤ c) (he : e = 0) :
 CoR (ab7 [.one (.p (.sl n 1 cl fun a b => kj (mvF (lf sC l) p j m) c d z (e + a) b))]) (.v (.one (.p (asl (l.eraseIdx k))))) := by
 subst hp hj hm he
 refine CoP.sl (by rw [List.length_eraseIdx, if_pos hk, hn]) (.inl rfl) (fun h => by cases h) fun i b hi hb => CoP.of_eq ?_
 show kj (mvF (lf sC l) p (p + 1) (l.length - (p + 1))) c d z (0 + i) b = lf sC (l.eraseIdx p) i b
 unfold kj
 rw [if_neg (by omega), Nat.zero_add]
 unfold mvF
 simp only [lf, List.getD]
 rw [List.getElem?_eraseIdx]
 by_cases h : i < p
 · rw [if_neg (by omega), if_pos h]
 · rw [if_pos (by omega), if_neg h, show i - p + (p + 1) = i + 1 by omega]
def orL (ps : List AS) : AS := ps.foldl (· ||| ·) 0
theorem a3o {ps : List AS} {i : Nat} (h : i < ps.length) : orL (ps.take (i + 1)) = orL (ps.take i) ||| ps.getD i default := by
 unfold orL
 rw [ci h, List.foldl_append]
 rfl
def po (n : Int) (l : List Fd) (ps : List AS) : Bool := decide (orL ps = bf n) && yw l ps && ps.any (oz n l)
theorem ab8 {n : Int} {l : List Fd} {ps : List AS} (h : ¬ asI (orL (ps.take ps.length)) = asI (bf n)) : po n l ps = false := by
 rw [List.take_length] at h
 unfold po
 rw [decide_eq_false (fun e => h (congrArg asI e))]
 rfl
theorem aae {n : Int} {l : List Fd} {ps : List AS} (h : yw l ps = false) : po n l ps = false := by
 unfold po
 rw [h]
 simp
theorem a3a {n : Int} {l : List Fd} {ps : List AS} : (bif bif decide (asI (orL (ps.take ps.length)) = asI (bf n)) then yw l ps else false then ps.any (oz n l) else false) = po n l ps := by
 unfold po
 rw [List.take_length, ai3]
 cases decide (orL ps = bf n) <;> cases yw l ps <;> rfl
def pi (n : Int) (l : List Fd) (ps : List AS) (s : AS) : List AS := if po n l (ps.eraseIdx (idx (fun x => decide (x = s)) ps).toNat) = true then ps.eraseIdx (idx (fun x => decide (x = s)) ps).toNat else ps
def a8q (n : Int) (l : List Fd) (p0 : List AS) : Nat → List AS
 | 0 => p0
 | i + 1 => pi n l (a8q n l p0 i) (p0.getD (p0.length - 1 - i) default)
def a0o (n : Int) (l : List Fd) : Bool := yw l (du n l)
def a51 (n : Int) (l : List Fd) : List AS := if d7 n l 8 = 0 ∧ a0o n l = true then a8q n l (db (du n l)) (db (du n l)).length else []
def tq (n : Int) (l : List Fd) : Bool := decide (d7 n l 8 = 0) && a0o n l
theorem avn {n : Int} {l : List Fd} (h : ¬ d7 n l 8 = 0) : a51 n l = [] ∧ tq n l = false := ⟨if_neg fun e => h e.1, by unfold tq; rw [decide_eq_false h]; rfl⟩
theorem awi {n : Int} {l : List Fd} (h : a0o n l = false) : a51 n l = [] ∧ tq n l = false := ⟨if_neg (fun e => (by rw [h] at e; exact absurd e.2 (by simp))), by unfold tq; rw [h]; simp⟩
theorem awe {n : Int} {l : List Fd} (h : d7 n l 8 = 0) (h2 : a0o n l = true) : a51 n l = a8q n l (db (du n l)) (db (du n l)).length ∧ tq n l = true := ⟨if_pos ⟨h, h2⟩, by unfold tq; rw [h2, decide_eq_true h]; rfl⟩
theorem ya (l : List AS) : (db l).Nodup := by
 unfold db xo
 exact (zb l).sublist List.filter_sublist
theorem anv (l : List AS) : (db l).length ≤ l.length := by
 unfold db xo
 exact Nat.le_trans (List.length_filter_le _ _) (vi l)
theorem a4g {ps : List AS} {s : AS} (h : s ∈ ps) : ∃ k : Nat, idx (fun x => decide (x = s)) ps = k ∧ k < ps.length ∧ ps.getD k default = s := by
 have hne : ¬ idx (fun x => decide (x = s)) ps = -1 := fun e => by
  have hf := wz e
  obtain ⟨j, hj, rfl⟩ := List.getElem_of_mem h
  have := of_decide_eq_false (hf j hj)
  rw [List.getD_eq_getElem?_getD, List.getElem?_eq_getElem hj] at this
  exact this rfl
 obtain ⟨k, h1, h2, h3, _⟩ := p6 hne
 exact ⟨k, h1, h2, of_decide_eq_true h3⟩
def a8s (n : Int) (l : List Fd) (p0 : List AS) (i : Nat) (ps : List AS) : Prop := ps = a8q n l p0 i ∧ ps.length ≤ p0.length ∧ ∀ j, j < p0.length - i → p0.getD j default ∈ ps
theorem ai8 (n : Int) (l : List Fd) (p0 : List AS) : a8s n l p0 0 p0 := ⟨rfl, Nat.le_refl _, fun j hj => aa6 (by omega)⟩
theorem akn {p0 : List AS} (h : p0.Nodup) {i j : Nat} (hi : i < p0.length) (hj : j < p0.length) (hne : i ≠ j) : p0.getD i default ≠ p0.getD j default := by
 rw [List.getD_eq_getElem?_getD, List.getD_eq_getElem?_getD, List.getElem?_eq_getElem hi, List.getElem?_eq_getElem hj]
 intro e
 rcases Nat.lt_or_gt_of_ne hne with h1 | h1
 · exact List.pairwise_iff_getElem.1 h i j hi hj h1 e
 · exact List.pairwise_iff_getElem.1 h j i hj hi h1 e.symm
theorem a7o {n : Int} {l : List Fd} {p0 ps : List AS} {i : Nat} (hn : p0.Nodup) (h : a8s n l p0 i ps) (hi : i < p0.length) : a8s n l p0 (i + 1) (pi n l ps (p0.getD (p0.length - 1 - i) default)) := by
 obtain ⟨h1, h2, h3⟩ := h
 obtain ⟨k, k1, k2, k3⟩ := a4g (h3 (p0.length - 1 - i) (by omega))
 refine ⟨by rw [h1]; rfl, ?_, fun j hj => ?_⟩
 · unfold pi
   split
   · rw [List.length_eraseIdx]; split <;> omega
   · exact h2
 · have hm := h3 j (by omega)
   unfold pi
   rw [k1, Int.toNat_natCast]
   split
   · have hne := akn hn (i := j) (j := p0.length - 1 - i) (by omega) (by omega) (by omega)
     obtain ⟨q, hq, he⟩ := List.getElem_of_mem hm
     have hqk : q ≠ k := fun e => by
      subst e
      rw [List.getD_eq_getElem?_getD, List.getElem?_eq_getElem hq, Option.getD_some, he] at k3
      exact hne k3
     rw [List.mem_eraseIdx_iff_getElem?]
     exact ⟨q, hqk, by rw [List.getElem?_eq_getElem hq, he]⟩
   · exact hm
def agc (n : Int) (l : List Fd) : Option Fd := (ld n l).find? fun f => !jj l (du n l) f
def a2m (n : Int) (l : List Fd) : Int := if d7 n l 8 = 0 then (match agc n l with | some _ => 0 | none => 4) else d7 n l 8
def a2o (n : Int) (l : List Fd) : Fd := if d7 n l 8 = 0 then (match agc n l with | some f => f | none => ⟨0, 0⟩) else ⟨0, 0⟩
theorem axj {n : Int} {l : List Fd} (h : ¬ d7 n l 8 = 0) : a2o n l = ⟨0, 0⟩ ∧ a2m n l = d7 n l 8 := ⟨if_neg h, if_neg h⟩
theorem axw {n : Int} {l : List Fd} (h : d7 n l 8 = 0) (hi : idx (fun f => !jj l (du n l) f) (ld n l) < 0) : a2o n l = ⟨0, 0⟩ ∧ a2m n l = 4 := by
 have hm : idx (fun f => !jj l (du n l) f) (ld n l) = -1 := by
  by_cases h : idx (fun f => !jj l (du n l) f) (ld n l) = -1
  · exact h
  · obtain ⟨i, h1, _⟩ := p6 h
    omega
 have e : agc n l = none := a9v (wz hm)
 unfold a2o a2m
 rw [if_pos h, if_pos h, e]
 exact ⟨rfl, rfl⟩
theorem ay4 {n : Int} {l : List Fd} (h : d7 n l 8 = 0) {i : Nat} (hi : i < (ld n l).length) (hv : (!jj l (du n l) ((ld n l).getD i default)) = true) (hj : ∀ j, j < i → (!jj l (du n l) ((ld n l).getD j default)) = false) : a2o n l = (ld n l).getD i default ∧ a2m n l = 0 := by
 have e : agc n l = some ((ld n l).getD i default) := aac hi hj hv
 unfold a2o a2m
 rw [if_pos h, if_pos h, e]
 exact ⟨rfl, rfl⟩
end Go.Hx
end
section
namespace Go.Hx
open Go.Proofs
set_option maxRecDepth 100000
set_option maxHeartbeats 1000000
theorem awb : goodFn Tryz.prog 72 := ⟨Tryz.f72, Tryz.func72, by kernel_rfl, by kernel_rfl⟩
theorem aql (l : List AS) (k : Nat) (hk : k < l.length) : cz Tryz.prog 72 [.one (.ref 900 l.length), .one (.p (.raw (.int .i64 (k : Int)))), .one (.p (.raw (.int .i64 ((k : Int) + 1))))] [(900, .arr true 1 38 l.length (lf sC l))] (.v (.one (.p (asl (l.eraseIdx k))))) [] [] := by
 refine ek (nt := 33) af Tryz.func72 rfl rfl l9 rfl ?_; refine a7 ?_
 refine a3z 900 rfl fun hlen => ?_
 refine gy ?_; refine qy ?_; refine a6 ?_; refine sx7 ?_; (iterate 6 refine qy ?_); refine a6 ?_; refine a7 ?_; refine sx7 ?_; (iterate 3 refine qy ?_); refine a6 ?_
 refine a8 _ rfl (fun r0 => ?_) (fun r0 => ?_)
 ·
  have h0 := of_decide_eq_true r0
  try simp only [ty] at h0
  exfalso
  omega
 ·
  have h0 := of_decide_eq_false r0
  try simp only [ty] at h0
  refine aa ?_; refine sx7 ?_; (iterate 3 refine qy ?_); refine a6 ?_; refine a7 ?_; refine aw (E := b4) af aq [0, 1, 2, 3, 4, 5, 6, 7] ?_; (iterate 6 refine qy ?_)
  refine ra 0 true rfl rfl rfl rfl rfl rfl ?_; refine qy ?_; refine a6 ?_; refine ⟨by kernel_rfl, ?_⟩; refine sx7 ?_; (iterate 5 refine qy ?_); refine ra 1 true rfl rfl rfl rfl rfl rfl ?_; refine a6 ?_; refine sx7 ?_
  (iterate 2 refine qy ?_); refine a6 ?_; refine ag6 6 rfl rfl rfl ?_; refine am ?_; refine ⟨.inr rfl, ?_⟩
  exact ⟨_, _, rfl, (by (repeat' apply And.intro) <;> first | trivial | exact Nat.le_of_ble_eq_true rfl), (by show CoR _ _; dsimp only [dx, bc]; exact au9 hk (by omega) (by omega) (by omega) (by omega) (by omega) (by omega)), trivial⟩
theorem asd : goodFn Tryz.prog 126 := ⟨Tryz.f126, Tryz.func126, by kernel_rfl, by kernel_rfl⟩
theorem auv (p : AS) (n : Int) (l : List Fd) : ah Tryz.prog 126 [pA p, pP (bx (.raw (.int .i64 n))), pP (bx (fdl l))] (ap [pB (oz n l p)]) := by
 refine ag (nt := 9) af Tryz.func126 rfl rfl l9 ?_; refine sx7 ?_; refine qy ?_; refine a6 ?_; refine sx7 ?_; (iterate 3 refine qy ?_); refine rc rfl rfl rfl rfl rfl rfl avv (az5 n l p) (CoL.refl _) rfl rfl ?_
 refine qy ?_; refine a6 ?_
 exact hx8 rfl rfl rfl (CoL.refl _)
theorem awo : goodFn Tryz.prog 73 := ⟨Tryz.f73, Tryz.func73, by kernel_rfl, by kernel_rfl⟩
theorem axm (n : Int) (l : List Fd) (ps : List AS) (hn0 : 0 ≤ n) (hn1 : n ≤ 16) (hl : l.length ≤ 16777216) : ah Tryz.prog 73 [pI n, pP (fdl l), pP (asl ps)] (ap [pB (po n l ps)]) := by
 refine ag (nt := 34) af Tryz.func73 rfl rfl l9 ?_; refine sx7 ?_; refine m9 0 ?_; refine m9 1 ?_; refine qy ?_; refine a6 ?_; refine sx7 ?_; refine qy ?_; refine a6 ?_; (iterate 2 refine a7 ?_)
 refine cj 2 rfl fun hn => ?_
 refine gy ?_; (iterate 3 refine qy ?_); refine a6 ?_; refine ae ?_; refine d1 3 rfl rfl rfl ?_; refine d1 4 rfl rfl rfl ?_
 refine aj (ι := Nat) ⟨[(2, some _), (3, some _), (4, some _), (10, some _), (11, some _)], []⟩ ⟨⟨c9, c9, c9, c9, c9, trivial⟩, trivial⟩ (fun i => ⟨[(7, some (vA (orL (ps.take i)))), (12, some (vI i))], []⟩) (fun i => i ≤ ps.length) (fun i => ps.length - i) (0) (Nat.zero_le _) ⟨⟨zy, zy, trivial⟩, trivial⟩ ?_
 rintro i hi
 refine sx7 ?_; refine qy ?_; refine a6 ?_; refine a7 ?_; refine a8 _ rfl (fun r0 => ?_) (fun r0 => ?_)
 ·
  have h0 := of_decide_eq_true r0
  try simp only [ty] at h0
  refine aa ?_; refine a7 ?_; refine ae ?_; refine sx7 ?_; (iterate 3 refine qy ?_); refine a6 ?_; refine gy ?_; (iterate 4 refine qy ?_); refine a6 ?_; refine gy ?_; (iterate 2 refine qy ?_)
  refine a6 ?_; refine ⟨i + 1, ?_, ?_, ?_⟩
  · show i + 1 ≤ _; omega
  · first | omega | (dsimp only; omega)
  · exact ⟨⟨⟨_, rfl, (nz (by rw [bOr, a3o (by omega)]; rfl))⟩, zy, c9, c9, c9, c9, c9, trivial⟩, trivial⟩
 ·
  have h0 := of_decide_eq_false r0
  try simp only [ty] at h0
  obtain rfl : i = ps.length := by omega
  refine al ?_; refine sx7 ?_; (iterate 2 refine qy ?_); refine rc rfl rfl rfl rfl rfl rfl abl (afu n hn0 hn1) (CoL.refl _) rfl rfl ?_; (iterate 2 refine qy ?_); refine bg rfl rfl (fun r1 => ?_) (fun r1 => ?_)
  ·
   have h1 := of_decide_eq_true r1
   try simp only [ty] at h1
   (iterate 2 refine qy ?_ (hg := (gtt r1))); refine rc rfl rfl rfl rfl rfl rfl aiv (avb l ps hl) (CoL.refl _) rfl (gtt r1) ?_; (iterate 2 refine qy ?_); refine bg rfl rfl (fun r2 => ?_) (fun r2 => ?_)
   ·
    have h2 := r2
    have h2 := d9 r1 h2
    (iterate 2 refine qy ?_ (hg := (gtt r2)))
    refine rc rfl rfl rfl rfl rfl rfl aa7 (ag9 ps 126 2 (fun i => [bx (.raw (.int .i64 n)), bx (fdl l)].getD i .any) (oz n l) asd (fun p => auv p n l)) (CoL.refl _) rfl (gtt r2) ?_; (iterate 2 refine qy ?_)
    refine a6 ?_
    exact hx8 rfl rfl rfl (⟨ccb (by first | exact a3a | exact (ab8 (by assumption)).symm | exact (aae (by assumption)).symm), trivial⟩)
   ·
    have h2 := r2
    have h2 := d9 r1 h2
    (iterate 3 refine k9 (gft r2) ?_); refine rq rfl rfl rfl rfl rfl ?_ (hp := r2); refine qy ?_; refine a6 ?_
    exact hx8 rfl rfl rfl (⟨ccb (by first | exact a3a | exact (ab8 (by assumption)).symm | exact (aae (by assumption)).symm), trivial⟩)
  ·
   have h1 := of_decide_eq_false r1
   try simp only [ty] at h1
   (iterate 3 refine k9 (gft r1) ?_); refine rq rfl rfl rfl rfl rfl ?_ (hp := r1); refine qy ?_; (iterate 3 refine k9 rfl ?_); (iterate 2 refine qy ?_); refine a6 ?_
   exact hx8 rfl rfl rfl (⟨ccb (by first | exact a3a | exact (ab8 (by assumption)).symm | exact (aae (by assumption)).symm), trivial⟩)
theorem atu : goodFn Tryz.prog 117 := ⟨Tryz.f117, Tryz.func117, by kernel_rfl, by kernel_rfl⟩
theorem az7 (x : Fd) (l : List Fd) (ps : List AS) : ah Tryz.prog 117 [x.pc, pP (bx (fdl l)), pP (bx (asl ps))] (ap [pB (!jj l ps x)]) := by
 refine ag (nt := 10) af Tryz.func117 rfl rfl l9 ?_; refine sx7 ?_; refine m9 0 ?_; refine qy ?_; refine a6 ?_; refine sx7 ?_; (iterate 3 refine qy ?_)
 refine rc rfl rfl rfl rfl rfl rfl aeu (ap3 l ps x) (CoL.refl _) rfl rfl ?_; (iterate 2 refine qy ?_); refine a6 ?_
 exact hx8 rfl rfl rfl (CoL.refl _)
theorem axf : goodFn Tryz.prog 59 := ⟨Tryz.f59, Tryz.func59, by kernel_rfl, by kernel_rfl⟩
theorem azi (n : Int) (l : List Fd) : ah Tryz.prog 59 [pI n, pP (fdl l)] (ap [(a2o n l).pc, pI (a2m n l)]) := by
 refine ag (nt := 40) af Tryz.func59 rfl rfl l9 ?_; refine sx7 ?_; refine m9 0 ?_; refine m9 1 ?_; refine qy ?_; refine a6 ?_; refine sx7 ?_; (iterate 2 refine qy ?_)
 refine rc rfl rfl rfl rfl rfl rfl ajw (aie n l) (CoL.refl _) rfl rfl ?_; (iterate 3 refine qy ?_); refine m9 2 ?_; refine s9 ?_; refine qy ?_; refine a6 ?_; refine a7 ?_; refine sx7 ?_; (iterate 2 refine qy ?_)
 refine a6 ?_; refine a8 _ rfl (fun r0 => ?_) (fun r0 => ?_)
 ·
  have h0 := r0
  have h0 := of_decide_eq_false (ay h0)
  try simp only [ty] at h0
  refine sx7 ?_; (iterate 2 refine qy ?_); refine s9 ?_; refine qy ?_; refine a6 ?_; refine am ?_; refine ⟨.inr rfl, ?_⟩
  have he := axj h0
  exact f9 rfl rfl (⟨zp he.1, cci he.2.symm, trivial⟩)
 ·
  have h0 := r0
  have h0 := of_decide_eq_true (ax h0)
  try simp only [ty] at h0
  refine aa ?_; refine sx7 ?_; (iterate 2 refine qy ?_); refine rc rfl rfl rfl rfl rfl rfl at9 (ay7 n l) (CoL.refl _) rfl rfl ?_; (iterate 5 refine qy ?_); refine a6 ?_; refine a7 ?_; refine sx7 ?_
  (iterate 2 refine qy ?_); refine a6 ?_; refine a8 _ rfl (fun r1 => ?_) (fun r1 => ?_)
  ·
   have h1 := r1
   have h1 := of_decide_eq_false (ay h1)
   try simp only [ty] at h1
   exfalso
   exact h1 (jn h0).1
  ·
   have h1 := r1
   have h1 := of_decide_eq_true (ax h1)
   try simp only [ty] at h1
   refine aa ?_; refine a7 ?_
   have hv := (jn h0).1
   refine d1 3 rfl rfl rfl ?_; refine d1 6 rfl rfl rfl ?_; refine gy ?_; (iterate 2 refine qy ?_)
   refine rc rfl rfl rfl rfl rfl rfl apq (ayz (ld n l) 117 2 (fun i => [bx (fdl l), bx (asl (du n l))].getD i .any) (fun f => !jj l (du n l) f) atu (fun x => az7 x l (du n l))) (CoL.refl _) rfl rfl ?_
   refine qy ?_; refine a6 ?_; refine a7 ?_; refine sx7 ?_; (iterate 2 refine qy ?_); refine a6 ?_; refine a8 _ rfl (fun r2 => ?_) (fun r2 => ?_)
   ·
    have h2 := of_decide_eq_true r2
    try simp only [ty] at h2
    refine sx7 ?_; refine qy ?_; refine s9 ?_; refine qy ?_; refine a6 ?_; refine am ?_; refine ⟨.inr rfl, ?_⟩
    have he := axw h0 (by omega)
    exact f9 rfl rfl (⟨zp he.1, cci he.2.symm, trivial⟩)
   ·
    have h2 := of_decide_eq_false r2
    try simp only [ty] at h2
    obtain ⟨i0, hi0, hi1, hi2, hi3⟩ := p6 (p := fun f => !jj l (du n l) f) (l := ld n l) (by omega)
    refine aa ?_; refine sx7 ?_; (iterate 4 refine qy ?_); refine s9 ?_; refine qy ?_; refine a6 ?_; refine am ?_; refine ⟨.inr rfl, ?_⟩
    have he := ay4 h0 hi1 hi2 hi3
    exact f9 rfl rfl (⟨CoC.of_eq (by rw [he.1, ← Int.toNat_natCast i0, ← hi0]; rfl), cci he.2.symm, trivial⟩)
end Go.Hx
end
section
namespace Go.Hx
theorem a8a {l : List Fd} {s : AS} (h : bz l s = true) : ∃ x, a3y l s = some x ∧ sub x s ∧ lh l s x = true := by
 unfold bz at h
 obtain ⟨x, hx⟩ := Option.isSome_iff_exists.1 h
 refine ⟨x, hx, ?_, List.find?_some hx⟩
 have hm := List.mem_of_find?_eq_some hx
 unfold d3 at hm
 split at hm
 · cases hm
 · exact a78.1 hm
theorem dh {a s : AS} (h : sub a s) (hne : a ≠ s) : bsz a < bsz s := by
 rcases Nat.lt_or_eq_of_le (ael h) with h1 | h1
 · exact h1
 · exfalso
   apply hne
   have hs : (av a).Sublist (av s) := by
    have : av a = (av s).filter fun i => a.getLsbD i := by
     unfold av
     rw [List.filter_filter]
     apply List.filter_congr
     intro i hi
     rw [List.mem_range] at hi
     cases ha : a.getLsbD i with
     | false => rfl
     | true => rw [c6.1 h i hi ha]; rfl
    rw [this]
    exact List.filter_sublist
   rw [pz, pz] at h1
   have he := hs.eq_of_length h1
   refine gt h (c6.2 fun i hi hb => ?_)
   have : i ∈ av s := lc.2 ⟨hi, hb⟩
   rw [← he] at this
   exact (lc.1 this).2
def spA (l : List Fd) (s : AS) : AS := (gq l s).lhs ||| (gq l s).rhs
def spB (l : List Fd) (s : AS) : AS := s &&& ~~~(gq l s).rhs
theorem qf {a b : AS} : sub (a &&& b) b := c6.2 fun i hi h => by rw [BitVec.getLsbD_and, Bool.and_eq_true] at h; exact h.2
theorem pw {a b : AS} : sub (a &&& b) a := c6.2 fun i hi h => by rw [BitVec.getLsbD_and, Bool.and_eq_true] at h; exact h.1
theorem sk {a b c : AS} (h : sub a b) (k : sub a c) : sub a (b &&& c) := c6.2 fun i hi ha => by rw [BitVec.getLsbD_and, c6.1 h i hi ha, c6.1 k i hi ha]; rfl
theorem jz {l : List Fd} {s : AS} (h : bz l s = true) : sub (spA l s) s ∧ spA l s ≠ s ∧ sub (spB l s) s ∧ spB l s ≠ s := by
 obtain ⟨x, hx, hs, hv⟩ := a8a h
 unfold lh at hv
 rw [Bool.and_eq_true, decide_eq_true_iff, decide_eq_true_iff] at hv
 have e : gq l s = aak l s x := by unfold gq; rw [hx]
 have hxc : sub x (clo l x &&& s) := sk a59 hs
 have ea : spA l s = clo l x &&& s := by
  unfold spA
  rw [e]
  apply gt
  · exact a02 hxc pw
  · refine c6.2 fun i hi hb => ?_
    show (x ||| ((clo l x &&& s) &&& ~~~x)).getLsbD i = true
    rw [BitVec.getLsbD_or, BitVec.getLsbD_and, BitVec.getLsbD_not, hb, decide_eq_true hi]
    cases x.getLsbD i <;> rfl
 refine ⟨ea ▸ qf, ea ▸ hv.2, pw, fun eb => hv.1 ?_⟩
 unfold spB at eb
 rw [e] at eb
 refine gt (c6.2 fun i hi hb => ?_) hxc
 have hsi : s.getLsbD i = true := c6.1 qf i hi hb
 have h2 := congrArg (fun z : AS => z.getLsbD i) eb
 have h3 : (aak l s x).rhs.getLsbD i = !x.getLsbD i := by
  show ((clo l x &&& s) &&& ~~~x).getLsbD i = _
  rw [BitVec.getLsbD_and, hb, BitVec.getLsbD_not, decide_eq_true hi]
  rfl
 simp only [BitVec.getLsbD_and, BitVec.getLsbD_not, decide_eq_true hi, hsi, h3, Bool.true_and, Bool.not_not] at h2
 exact h2
def kr (l : List Fd) : Nat → List AS → List AS → List AS
 | 0, _, out => out
 | n + 1, todo, out =>
  if todo.length = 0 then out
  else if bz l (todo.getD (todo.length - 1) default) = true then kr l n (todo.take (todo.length - 1) ++ [spA l (todo.getD (todo.length - 1) default), spB l (todo.getD (todo.length - 1) default)]) out
  else kr l n (todo.take (todo.length - 1)) (out ++ [todo.getD (todo.length - 1) default])
def xb (n : Int) (l : List Fd) : List AS := kr l 6562 [bf n] []
def jx (n : Int) (l : List Fd) : List AS := if d7 n l 8 = 0 then db (xb n l) else []
theorem a4j {n : Int} {l : List Fd} (h : d7 n l 8 = 0) : jx n l = db (xb n l) := if_pos h
theorem ajf {n : Int} {l : List Fd} (h : ¬ d7 n l 8 = 0) : jx n l = [] := if_neg h
def dq (todo : List AS) : Nat := (todo.map fun s => 3 ^ bsz s).sum
theorem iw (a b : List AS) : dq (a ++ b) = dq a + dq b := by unfold dq; rw [List.map_append, List.sum_append]
theorem a9s : ∀ todo : List AS, todo.length ≤ dq todo
 | [] => Nat.zero_le _
 | s :: t => by
  have h1 := a9s t
  have h2 : 0 < 3 ^ bsz s := Nat.pow_pos (by omega)
  have e : dq (s :: t) = 3 ^ bsz s + dq t := by unfold dq; rw [List.map_cons, List.sum_cons]
  rw [List.length_cons, e]
  omega
theorem ni {todo : List AS} (h : 0 < todo.length) : todo = todo.take (todo.length - 1) ++ [todo.getD (todo.length - 1) default] := by
 have := ci (l := todo) (q := todo.length - 1) (by omega)
 rw [show todo.length - 1 + 1 = todo.length by omega, List.take_length] at this
 exact this
def zx (n : Int) (l : List Fd) (x : Nat × List AS × List AS) : Prop := kr l x.1 x.2.1 x.2.2 = xb n l ∧ dq x.2.1 < x.1 ∧ x.2.2.length + x.1 ≤ 6562
theorem aka {k : Nat} (h : k ≤ 32) : bsz (ij k) ≤ k := by
 unfold bsz
 have e : (List.range 32).countP (fun i => (ij k).getLsbD i) = (List.range 32).countP fun i => decide (i < k) := by
  apply List.countP_congr
  intro i hi
  rw [List.mem_range] at hi
  rw [kw k i hi]
 have h2 : ∀ m, (List.range m).countP (fun i => decide (i < k)) ≤ k ∧ (List.range m).countP (fun i => decide (i < k)) ≤ m := by
  intro m
  induction m with
  | zero => simp
  | succ m ih =>
   rw [List.range_succ, List.countP_append]
   simp only [List.countP_cons, List.countP_nil]
   by_cases hm : m < k
   · rw [if_pos (decide_eq_true hm)]; omega
   · rw [if_neg (by simpa using hm)]; omega
 rw [e]
 exact (h2 32).1
theorem a3g {n : Int} {m : Nat} (h : n ≤ m) (hm : m ≤ 32) : bsz (bf n) ≤ m := by
 unfold bf
 exact Nat.le_trans (aka (Nat.min_le_right _ _)) (by omega)
theorem xv {n : Int} {l : List Fd} (h : d7 n l 8 = 0) : zx n l (6562, [bf n], []) := by
 refine ⟨rfl, ?_, Nat.le_refl _⟩
 show 3 ^ bsz (bf n) + 0 < 6562
 have h1 := a3g (n := n) (m := 8) (jn h).2 (by omega)
 have h2 : 3 ^ bsz (bf n) ≤ 3 ^ 8 := Nat.pow_le_pow_right (by omega) h1
 have h3 : 3 ^ 8 = 6561 := rfl
 omega
theorem a1e {n : Int} {l : List Fd} {x : Nat × List AS × List AS} (h : zx n l x) : x.2.1.length < 6562 ∧ x.2.2.length ≤ 6562 ∧ 0 < x.1 := by
 have := a9s x.2.1
 obtain ⟨h1, h2, h3⟩ := h
 omega
theorem as4 {n : Int} {l : List Fd} {x : Nat × List AS × List AS} (h : zx n l x) (h0 : x.2.1.length = 0) : x.2.2 = xb n l := by
 have hp := (a1e h).2.2
 obtain ⟨h1, h2, h3⟩ := h
 obtain ⟨m, hm⟩ : ∃ m, x.1 = m + 1 := ⟨x.1 - 1, by omega⟩
 rw [hm] at h1
 unfold kr at h1
 rw [if_pos h0] at h1
 exact h1
theorem apo {n : Int} {l : List Fd} {x : Nat × List AS × List AS} (h : zx n l x) (h0 : 0 < x.2.1.length) (hv : bz l (x.2.1.getD (x.2.1.length - 1) default) = true) :
 zx n l (x.1 - 1, x.2.1.take (x.2.1.length - 1) ++ [spA l (x.2.1.getD (x.2.1.length - 1) default), spB l (x.2.1.getD (x.2.1.length - 1) default)], x.2.2) := by
 have hp := (a1e h).2.2
 obtain ⟨h1, h2, h3⟩ := h
 obtain ⟨m, hm⟩ : ∃ m, x.1 = m + 1 := ⟨x.1 - 1, by omega⟩
 rw [hm] at h1
 unfold kr at h1
 rw [if_neg (by omega), if_pos hv] at h1
 refine ⟨by rw [hm]; exact h1, ?_, by dsimp only; omega⟩
 have e := iw (x.2.1.take (x.2.1.length - 1)) [x.2.1.getD (x.2.1.length - 1) default]
 rw [← ni h0] at e
 have e1 : dq [x.2.1.getD (x.2.1.length - 1) default] = 3 ^ bsz (x.2.1.getD (x.2.1.length - 1) default) := by simp [dq]
 generalize x.2.1.getD (x.2.1.length - 1) default = s at *
 dsimp only
 rw [iw]
 have e2 : dq [spA l s, spB l s] = 3 ^ bsz (spA l s) + 3 ^ bsz (spB l s) := by simp [dq]
 obtain ⟨f1, f2, f3, f4⟩ := jz hv
 have g1 := dh f1 f2
 have g2 := dh f3 f4
 obtain ⟨b, hb⟩ : ∃ b, bsz s = b + 1 := ⟨bsz s - 1, by omega⟩
 have p1 : 3 ^ bsz (spA l s) ≤ 3 ^ b := Nat.pow_le_pow_right (by omega) (by omega)
 have p2 : 3 ^ bsz (spB l s) ≤ 3 ^ b := Nat.pow_le_pow_right (by omega) (by omega)
 have p3 : 3 ^ bsz s = 3 ^ b * 3 := by rw [hb, Nat.pow_succ]
 have p4 : 0 < 3 ^ b := Nat.pow_pos (by omega)
 omega
theorem aov {n : Int} {l : List Fd} {x : Nat × List AS × List AS} (h : zx n l x) (h0 : 0 < x.2.1.length) (hv : bz l (x.2.1.getD (x.2.1.length - 1) default) = false) :
 zx n l (x.1 - 1, x.2.1.take (x.2.1.length - 1), x.2.2 ++ [x.2.1.getD (x.2.1.length - 1) default]) := by
 have hp := (a1e h).2.2
 obtain ⟨h1, h2, h3⟩ := h
 obtain ⟨m, hm⟩ : ∃ m, x.1 = m + 1 := ⟨x.1 - 1, by omega⟩
 rw [hm] at h1
 unfold kr at h1
 rw [if_neg (by omega), if_neg (by rw [hv]; decide)] at h1
 refine ⟨by rw [hm]; exact h1, ?_, by dsimp only; rw [List.length_append, List.length_singleton]; omega⟩
 have e := iw (x.2.1.take (x.2.1.length - 1)) [x.2.1.getD (x.2.1.length - 1) default]
 rw [← ni h0] at e
 have e1 : dq [x.2.1.getD (x.2.1.length - 1) default] = 3 ^ bsz (x.2.1.getD (x.2.1.length - 1) default) := by simp [dq]
 have p4 : 0 < 3 ^ bsz (x.2.1.getD (x.2.1.length - 1) default) := Nat.pow_pos (by omega)
 dsimp only
 omega
theorem adq {α : Type} [Inhabited α] {wr wr' : Bool} {n m : Nat} {e : TypeId} {c : α → Nat → PV} {l : List α} {x y : α} {f g : Nat → Nat → PV} (hn : n = l.length) (hf : ∀ i, i < l.length → CoP (f i 0) (lf c l i 0)) (h0 : CoP (g 0 0) (c x 0)) (h1 : CoP (g 1 0) (c y 0)) (hm : m = n + 2) (hw : wr' = true → wr = true := by exact fun h => h) :
 CoO (.arr wr 1 e m (fh n f g)) (.arr wr' 1 e (l ++ [x, y]).length (lf c (l ++ [x, y]))) := by
 subst hn hm
 refine ⟨hw, rfl, rfl, by simp, fun i j hi hj => ?_⟩
 obtain rfl : j = 0 := by omega
 unfold fh
 by_cases h : i < l.length
 · rw [if_pos h]
   have := hf i h
   simp only [lf, List.getD, List.getElem?_append_left h] at this ⊢
   exact this
 · rw [if_neg h]
   rcases (by omega : i = l.length ∨ i = l.length + 1) with rfl | rfl
   · rw [Nat.sub_self]
     simp only [lf, List.getD]
     rw [List.getElem?_append_right (Nat.le_refl _), Nat.sub_self]
     exact h0
   · rw [show l.length + 1 - l.length = 1 by omega]
     simp only [lf, List.getD]
     rw [List.getElem?_append_right (by omega), show l.length + 1 - l.length = 1 by omega]
     exact h1
theorem ach {α : Type} [Inhabited α] {wr wr' : Bool} {k m : Nat} {e : TypeId} {c : α → Nat → PV} {l : List α} (hk : k ≤ l.length) (hm : m = k) (hw : wr' = true → wr = true := by exact fun h => h) : CoO (.arr wr 1 e m (lf c l)) (.arr wr' 1 e (l.take k).length (lf c (l.take k))) := by
 subst hm
 refine ⟨hw, rfl, rfl, by rw [List.length_take, Nat.min_eq_left hk], fun i j hi hj => CoP.of_eq ?_⟩
 simp only [lf, List.getD, List.getElem?_take, if_pos hi]
theorem aph {l : List Fd} {s : AS} : PV.raw (.int .u32 (da .or .u32 (asI (gq l s).lhs) (asI (gq l s).rhs))) = sC (spA l s) 0 := congrArg (fun z => PV.raw (.int .u32 z)) (bOr _ _)
theorem ap7 {l : List Fd} {t : List AS} {i j : Nat} (h : i = j) : PV.raw (.int .u32 (da .andNot .u32 (asI (t.getD i default)) (asI (gq l (t.getD j default)).rhs))) = sC (spB l (t.getD j default)) 0 := by
 subst h
 exact congrArg (fun z => PV.raw (.int .u32 z)) (a3n _ _)
theorem a8z {l : List AS} {k i : Nat} (hi : i < (l.take k).length) : lf sC l i 0 = lf sC (l.take k) i 0 := by
 rw [List.length_take] at hi
 simp only [lf, List.getD, List.getElem?_take, if_pos (show i < k by omega)]
theorem aeg {n : Int} {l : List Fd} {ps : List AS} {s : AS} {k : Nat} (hk : idx (fun x => decide (x = s)) ps = k) (h : po n l (ps.eraseIdx k) = true) : pi n l ps s = ps.eraseIdx k := by
 unfold pi
 rw [hk, Int.toNat_natCast, if_pos h]
theorem ae7 {n : Int} {l : List Fd} {ps : List AS} {s : AS} {k : Nat} (hk : idx (fun x => decide (x = s)) ps = k) (h : po n l (ps.eraseIdx k) = false) : pi n l ps s = ps := by
 unfold pi
 rw [hk, Int.toNat_natCast, if_neg (by rw [h]; decide)]
end Go.Hx
end
section
namespace Go.Hx
open Go.Proofs
set_option maxRecDepth 100000
theorem a9i : goodFn Tryz.prog 30 := ⟨Tryz.f30, Tryz.func30, by kernel_rfl, by kernel_rfl⟩
theorem an9 (n : Int) (l : List Fd) : ah Tryz.prog 30 [pI n, pP (fdl l)] (ap [pP (asl (jx n l)), pI (d7 n l 8)]) := by
 refine ag (nt := 60) af Tryz.func30 rfl rfl l9 ?_; refine sx7 ?_; (iterate 2 refine qy ?_); refine a6 ?_; refine a7 ?_; refine sx7 ?_; (iterate 2 refine qy ?_)
 refine rc rfl rfl rfl rfl rfl rfl ak9 (avh n l) (CoL.refl _) rfl rfl ?_; refine qy ?_; refine a6 ?_; refine sx7 ?_; (iterate 2 refine qy ?_); refine a6 ?_; refine a8 _ rfl (fun r0 => ?_) (fun r0 => ?_)
 ·
  have h0 := r0
  have h0 := of_decide_eq_false (ay h0)
  try simp only [ty] at h0
  refine sx7 ?_; (iterate 3 refine qy ?_); refine a6 ?_
  exact hx8 rfl rfl rfl (⟨CoC.one (a69 (ajf h0)), CoC.refl _, trivial⟩)
 ·
  have h0 := r0
  have h0 := of_decide_eq_true (ax h0)
  try simp only [ty] at h0
  refine aa ?_; refine a7 ?_
  have hv := gw (jn h0).1
  refine gy ?_; refine qy ?_; refine a6 ?_; refine a7 ?_; refine sx7 ?_; refine qy ?_; refine rc rfl rfl rfl rfl rfl rfl abl (afu n hv.1 hv.2.1) (CoL.refl _) rfl rfl ?_; refine m9 0 ?_; refine qy ?_; refine a6 ?_
  refine ae ?_; refine dl 7 900 true 1 38 (lf sC []) (by decide) rfl (CoP.sl rfl (.inr rfl) (fun h => h) (fun i j hi _ => absurd hi (Nat.not_lt_zero i))) (.inr rfl) rfl ?_; refine nk 8 901 rfl rfl rfl rfl ?_
  refine aj (ι := Nat × List AS × List AS) ⟨[(1, some _)], []⟩ ⟨⟨c9, trivial⟩, trivial⟩ (fun x => ⟨[(7, some (.v (.one (.ref 900 x.2.2.length)))), (8, some (.v (.one (.ref 901 x.2.1.length))))], [(900, some (.arr true 1 38 x.2.2.length (lf sC x.2.2))), (901, some (.arr true 1 38 x.2.1.length (lf sC x.2.1)))]⟩) (fun x => zx n l x) (fun x => x.1) ((6562, [bf n], [])) (xv h0) ⟨⟨zy, zy, trivial⟩, ⟨u9, ⟨_, rfl, (xq (CoP.refl _))⟩, trivial⟩⟩ ?_
  rintro x hx
  have hlen := a1e hx
  refine nk 8 902 rfl rfl rfl rfl ?_; refine a7 ?_; refine sx7 ?_; (iterate 3 refine qy ?_); refine a6 ?_; refine a8 _ rfl (fun r1 => ?_) (fun r1 => ?_)
  ·
   have h1 := of_decide_eq_true r1
   try simp only [ty] at h1
   refine aa ?_; refine ae ?_; refine sx7 ?_; (iterate 7 refine qy ?_); refine a6 ?_; refine sx7 ?_; (iterate 6 refine qy ?_); refine a6 ?_
   refine ala ⟨[(1, some _), (7, some _), (8, some _), (9, some _)], [(900, some _), (902, some _)]⟩ (by exact ⟨⟨c9, c9, c9, c9, trivial⟩, ⟨u9, u9, trivial⟩⟩) ?_
   refine a8y 8 901 rfl rfl rfl rfl (by simp only [dx, bc, Int.toNat_natCast]; omega) rfl ?_; refine sx7 ?_; (iterate 2 refine qy ?_)
   refine rc rfl rfl rfl rfl rfl rfl a4w (a8r l (x.2.1.getD (x.2.1.length - 1) default)) (⟨CoC.refl _, CoC.one (CoP.of_eq (congrArg (fun i => asC (x.2.1.getD i default)) (by omega))), trivial⟩) rfl rfl ?_
   (iterate 3 refine qy ?_); refine m9 1 ?_; refine s9 ?_; refine qy ?_; refine a6 ?_; refine sx7 ?_; refine qy ?_; refine a6 ?_; refine a8 _ rfl (fun r2 => ?_) (fun r2 => ?_)
   ·
    have h2 := r2
    refine gy ?_; (iterate 10 refine qy ?_); refine m9 2 ?_; refine ra 3 true rfl rfl rfl rfl rfl rfl ?_; refine qy ?_; refine a6 ?_
    first | (refine ⟨(x.1 - 1, (x.2.1.take (x.2.1.length - 1)) ++ [spA l (x.2.1.getD (x.2.1.length - 1) default), spB l (x.2.1.getD (x.2.1.length - 1) default)], x.2.2), ?_, ?_, ?_⟩
             · exact apo hx (by omega) (by assumption)
             · dsimp only
               omega
             · exact ⟨⟨zy, ⟨_, rfl, (kp (by simp only [dx, bc, List.length_append, List.length_cons, List.length_nil, List.length_take]; omega))⟩, c9, trivial⟩, ⟨u9, ⟨_, rfl, (adq (by simp only [dx, bc, List.length_append, List.length_cons, List.length_nil, List.length_take]; omega) (fun i hi => CoP.of_eq (a8z hi)) (CoP.of_eq aph) (CoP.of_eq (ap7 (by omega))) rfl)⟩, trivial⟩⟩)
          | (refine ⟨(x.1 - 1, (x.2.1.take (x.2.1.length - 1)), x.2.2 ++ [(x.2.1.getD (x.2.1.length - 1) default)]), ?_, ?_, ?_⟩
             · exact aov hx (by omega) (by assumption)
             · dsimp only
               omega
             · exact ⟨⟨⟨_, rfl, (ej rfl)⟩, ⟨_, rfl, (kp (by simp only [dx, bc, List.length_append, List.length_cons, List.length_nil, List.length_take]; omega))⟩, c9, trivial⟩, ⟨⟨_, rfl, (f0 rfl (CoP.of_eq (congrArg (fun i => asC (x.2.1.getD i default)) (by omega))))⟩, ⟨_, rfl, (ach (by omega) (by simp only [dx, bc]; omega))⟩, trivial⟩⟩)
   ·
    have h2 := r2
    refine gy ?_; (iterate 2 refine qy ?_); refine m9 4 ?_; refine ra 5 true rfl rfl rfl rfl rfl rfl ?_; refine qy ?_; refine a6 ?_
    first | (refine ⟨(x.1 - 1, (x.2.1.take (x.2.1.length - 1)) ++ [spA l (x.2.1.getD (x.2.1.length - 1) default), spB l (x.2.1.getD (x.2.1.length - 1) default)], x.2.2), ?_, ?_, ?_⟩
             · exact apo hx (by omega) (by assumption)
             · dsimp only
               omega
             · exact ⟨⟨zy, ⟨_, rfl, (kp (by simp only [dx, bc, List.length_append, List.length_cons, List.length_nil, List.length_take]; omega))⟩, c9, trivial⟩, ⟨u9, ⟨_, rfl, (adq (by simp only [dx, bc, List.length_append, List.length_cons, List.length_nil, List.length_take]; omega) (fun i hi => CoP.of_eq (a8z hi)) (CoP.of_eq aph) (CoP.of_eq (ap7 (by omega))) rfl)⟩, trivial⟩⟩)
          | (refine ⟨(x.1 - 1, (x.2.1.take (x.2.1.length - 1)), x.2.2 ++ [(x.2.1.getD (x.2.1.length - 1) default)]), ?_, ?_, ?_⟩
             · exact aov hx (by omega) (by assumption)
             · dsimp only
               omega
             · exact ⟨⟨⟨_, rfl, (ej rfl)⟩, ⟨_, rfl, (kp (by simp only [dx, bc, List.length_append, List.length_cons, List.length_nil, List.length_take]; omega))⟩, c9, trivial⟩, ⟨⟨_, rfl, (f0 rfl (CoP.of_eq (congrArg (fun i => asC (x.2.1.getD i default)) (by omega))))⟩, ⟨_, rfl, (ach (by omega) (by simp only [dx, bc]; omega))⟩, trivial⟩⟩)
  ·
   have h1 := of_decide_eq_false r1
   try simp only [ty] at h1
   refine al ?_; refine a7 ?_; refine bs 7 rfl rfl rfl ?_
   have hx0 : x.2.1.length = 0 := by omega
   refine gy ?_; refine qy ?_; refine rc rfl rfl rfl rfl rfl rfl ajm (a9n x.2.2 (by omega)) (CoL.refl _) rfl rfl ?_; (iterate 2 refine qy ?_); refine a6 ?_
   exact hx8 rfl rfl rfl (⟨CoC.one (CoP.of_eq (by rw [a4j h0, as4 hx hx0])), cci h0.symm, trivial⟩)
theorem aus : goodFn Tryz.prog 35 := ⟨Tryz.f35, Tryz.func35, by kernel_rfl, by kernel_rfl⟩
theorem ayr (n : Int) (l : List Fd) : ah Tryz.prog 35 [pI n, pP (fdl l)] (ap [pP (asl (a51 n l)), pB (tq n l), pI (d7 n l 8)]) := by
 refine ag (nt := 49) af Tryz.func35 rfl rfl l9 ?_; refine sx7 ?_; refine m9 0 ?_; refine m9 1 ?_; (iterate 3 refine qy ?_); refine a6 ?_; refine sx7 ?_; (iterate 2 refine qy ?_)
 refine rc rfl rfl rfl rfl rfl rfl ajw (aie n l) (CoL.refl _) rfl rfl ?_; (iterate 5 refine qy ?_); refine a6 ?_; refine a7 ?_; refine sx7 ?_; (iterate 2 refine qy ?_); refine a6 ?_
 refine a8 _ rfl (fun r0 => ?_) (fun r0 => ?_)
 ·
  have h0 := r0
  have h0 := of_decide_eq_false (ay h0)
  try simp only [ty] at h0
  refine sx7 ?_; (iterate 4 refine qy ?_); refine a6 ?_; refine am ?_; refine ⟨.inr rfl, ?_⟩
  have he := avn h0
  exact f9 rfl rfl (⟨CoC.one (a69 he.1), ccb he.2.symm, CoC.refl _, trivial⟩)
 ·
  have h0 := r0
  have h0 := of_decide_eq_true (ax h0)
  try simp only [ty] at h0
  refine aa ?_; (iterate 2 refine a7 ?_)
  have hv := gw (jn h0).1
  have hsl := aoa n l
  have hml := anv (du n l)
  refine gy ?_; (iterate 2 refine qy ?_); refine rc rfl rfl rfl rfl rfl rfl aiv (avb l (du n l) (by omega)) (CoL.refl _) rfl rfl ?_; refine qy ?_; refine a6 ?_; refine a8 _ rfl (fun r1 => ?_) (fun r1 => ?_)
  ·
   have h1 := r1
   have h1 := ay h1
   refine sx7 ?_; (iterate 3 refine qy ?_); refine a6 ?_; refine am ?_; refine ⟨.inr rfl, ?_⟩
   have he := awi (n := n) (l := l) (by assumption)
   exact f9 rfl rfl (⟨CoC.one (a69 he.1), ccb he.2.symm, cci h0.symm, trivial⟩)
  ·
   have h1 := r1
   have h1 := ax h1
   refine aa ?_; refine sx7 ?_; refine qy ?_; refine rc rfl rfl rfl rfl rfl rfl ajm (a9n (du n l) (by omega)) (CoL.refl _) rfl rfl ?_; refine m9 2 ?_; refine s9 ?_; refine a6 ?_; (iterate 2 refine a7 ?_)
   refine d1 2 rfl rfl rfl ?_; refine d1 3 rfl rfl rfl ?_; refine gy ?_; refine qy ?_
   refine rc rfl rfl rfl rfl rfl rfl a0e (aoe (db (du n l)).length false (lf sC (db (du n l))) (by omega)) (CoL.refl _) rfl rfl ?_
   refine rc rfl rfl rfl rfl rfl rfl avf (c74 (db (du n l)).length false (lf sC (db (du n l)))) (CoL.refl _) rfl rfl ?_; refine a6 ?_; refine ae ?_
   refine anh (ι := List AS) (swp 2 1000) (aew 2 1000) rfl au7 (ay0 (db (du n l)).length false (lf sC (db (du n l))) (by omega)) [(2, some (bu (bx (.raw (.int .i64 n))))), (3, some (bu (bx (fdl l)))), (9, some (.v (.one (.ptr 2 0))))] (fun ps => [(2, .box [.p (asl ps)])]) (fun i ps => a8s n l (db (du n l)) i ps) ((db (du n l))) (ai8 n l (db (du n l))) ⟨⟨c9, c9, c9, trivial⟩, ⟨u9, trivial⟩⟩ [2] (fun _ _ => rfl) rfl rfl ?_ ?_
   · rintro lp i ps hi hI
     have hpl := hI.2.1
     refine gy ?_; refine qy ?_; refine a6 ?_; refine ⟨rfl, ?_⟩; refine ae ?_; refine sx7 ?_; (iterate 2 refine qy ?_)
     refine rc rfl rfl rfl rfl rfl rfl auu (azz ps ((db (du n l)).getD ((db (du n l)).length - 1 - i) default)) (CoL.refl _) rfl rfl ?_; refine qy ?_; refine a6 ?_; refine a7 ?_
     obtain ⟨k, hk1, hk2, hk3⟩ := a4g (hI.2.2 ((db (du n l)).length - 1 - i) (by omega))
     refine gy ?_; refine qy ?_; refine bw rfl rfl rfl rfl rfl rfl a0e (vm ps.length false (lf sC ps) (by omega)) (dn.refl _) trivial rfl rfl ?_; (iterate 3 refine qy ?_)
     refine bw rfl rfl rfl rfl rfl rfl awb ((aql ps k hk2).swap 900 0) (⟨rfl, CoP.of_eq (by rw [hk1]), CoP.of_eq (by rw [hk1]), trivial⟩) ⟨u9, trivial⟩ rfl rfl ?_; refine qy ?_; refine a6 ?_; refine sx7 ?_
     (iterate 3 refine qy ?_); refine rc rfl rfl rfl rfl rfl rfl awo (axm n l (ps.eraseIdx k) hv.1 hv.2.1 (by omega)) (CoL.refl _) rfl rfl ?_; refine a6 ?_; refine a8 _ rfl (fun r2 => ?_) (fun r2 => ?_)
     ·
      have h2 := r2
      refine gy ?_; refine qy ?_; refine s9 ?_; refine a6 ?_; refine ⟨rfl, pi n l ps ((db (du n l)).getD ((db (du n l)).length - 1 - i) default), ?_, ?_⟩
      · exact a7o (ya _) hI hi
      ·
       exact ⟨⟨_, rfl, (by first | exact ⟨CoP.of_eq (by rw [aeg hk1 (by assumption)]), trivial⟩ | exact ⟨CoP.of_eq (by rw [ae7 hk1 (by assumption)]), trivial⟩)⟩, trivial⟩
     ·
      have h2 := r2
      refine aa ?_; refine ⟨rfl, pi n l ps ((db (du n l)).getD ((db (du n l)).length - 1 - i) default), ?_, ?_⟩
      · exact a7o (ya _) hI hi
      ·
       exact ⟨⟨_, rfl, (by first | exact ⟨CoP.of_eq (by rw [aeg hk1 (by assumption)]), trivial⟩ | exact ⟨CoP.of_eq (by rw [ae7 hk1 (by assumption)]), trivial⟩)⟩, trivial⟩
   · rintro ps hI
     refine sx7 ?_; (iterate 4 refine qy ?_); refine a6 ?_; refine am ?_; refine ⟨.inr rfl, ?_⟩
     have he := awe h0 (by assumption)
     exact f9 rfl rfl (⟨CoC.one (CoP.of_eq (by rw [he.1, ← hI.1])), ccb he.2.symm, cci h0.symm, trivial⟩)
end Go.Hx
end
section
namespace Go.Hx
open Go.Proofs
set_option maxRecDepth 100000
def nv : List Fd := [⟨1, 2⟩, ⟨2, 4⟩]
def mi : List Fd := [⟨3, 4⟩, ⟨4, 1⟩]
theorem a9p : ut nv 7 = ⟨2, 4⟩ ∧ pl nv 7 = true ∧ mw nv 7 = 0 := by decide +kernel
theorem ah9 : jx 3 nv = [3, 6] ∧ d7 3 nv 8 = 0 := by decide +kernel
theorem a5z : jx 3 mi = [5, 6] ∧ d7 3 mi 8 = 0 := by decide +kernel
theorem ah7 : a2o 3 mi = ⟨3, 4⟩ ∧ a2m 3 mi = 0 := by decide +kernel
theorem aps : tq 3 mi = false := by decide +kernel
theorem yq {x y : Fd} {cl : Bool} {f : Nat → Nat → PV} (h0 : CoP (f 0 0) (x.c 0)) (h1 : CoP (f 0 1) (x.c 1)) (h2 : CoP (f 1 0) (y.c 0)) (h3 : CoP (f 1 1) (y.c 1)) : CoP (.sl 2 2 cl f) (fdl [x, y]) :=
 CoP.sl rfl (.inl rfl) (fun h => by cases h) fun i j hi hj => by
  rcases (by omega : i = 0 ∨ i = 1) with rfl | rfl <;> rcases (by omega : j = 0 ∨ j = 1) with rfl | rfl
  · exact h0
  · exact h1
  · exact h2
  · exact h3
theorem axr : ah Tryz.prog 58 [pP (fdl nv), pA 7] (ap [Fd.pc ⟨2, 4⟩, pB true, pI 0]) := by
 have h := b00 nv 7
 rw [a9p.1, a9p.2.1, a9p.2.2] at h
 exact h
theorem axt : ah Tryz.prog 30 [pI 3, pP (fdl nv)] (ap [pP (asl [3, 6]), pI 0]) := by
 have h := an9 3 nv
 rw [ah9.1, ah9.2] at h
 exact h
theorem ayn : ah Tryz.prog 30 [pI 3, pP (fdl mi)] (ap [pP (asl [5, 6]), pI 0]) := by
 have h := an9 3 mi
 rw [a5z.1, a5z.2] at h
 exact h
theorem axq : ah Tryz.prog 59 [pI 3, pP (fdl mi)] (ap [Fd.pc ⟨3, 4⟩, pI 0]) := by
 have h := azi 3 mi
 rw [ah7.1, ah7.2] at h
 exact h
theorem av4 : ah Tryz.prog 35 [pI 3, pP (fdl mi)] (ap [pP (asl (a51 3 mi)), pB false, pI 0]) := by
 have h := ayr 3 mi
 rw [aps, a5z.2] at h
 exact h
theorem ari : ah Tryz.prog 32 [pP (asl [3, 6]), pP (asl [3, 6])] (ap [pB true]) := by
 have h := ac5 [3, 6] [3, 6]
 rw [decide_eq_true rfl] at h
 exact h
theorem ato : ah Tryz.prog 32 [pP (asl [5, 6]), pP (asl [5, 6])] (ap [pB true]) := by
 have h := ac5 [5, 6] [5, 6]
 rw [decide_eq_true rfl] at h
 exact h
theorem aau {α : Type} [Inhabited α] {wr wr' : Bool} {e : TypeId} {c : α → Nat → PV} {x y : α} {f : Nat → Nat → PV} (h0 : CoP (f 0 0) (c x 0)) (h1 : CoP (f 1 0) (c y 0)) (hw : wr' = true → wr = true := by exact fun h => h) : CoO (.arr wr 1 e 2 f) (.arr wr' 1 e 2 (lf c [x, y])) :=
 ⟨hw, rfl, rfl, rfl, fun i j hi hj => by
  have hi : i < 2 := hi
  have hj : j < 1 := hj
  obtain rfl : j = 0 := by omega
  rcases (by omega : i = 0 ∨ i = 1) with rfl | rfl
  · exact h0
  · exact h1⟩
end Go.Hx
end
section
namespace Go.Hx
open Go.Proofs
set_option maxRecDepth 100000
theorem ai0 : goodFn Tryz.prog 29 := ⟨Tryz.f29, Tryz.func29, by kernel_rfl, by kernel_rfl⟩
theorem aij  : ah Tryz.prog 29 [] (ap [pB true]) := by
 refine ag (nt := 93) af Tryz.func29 rfl rfl l9 ?_; refine sx7 ?_; refine qy ?_; refine a6 ?_; refine sx7 ?_; (iterate 2 refine qy ?_); refine m9 0 ?_; (iterate 2 refine qy ?_); refine m9 1 ?_
 (iterate 2 refine qy ?_); refine a6 ?_; refine bs 1 rfl rfl rfl ?_; refine bs 2 rfl rfl rfl ?_; refine sx7 ?_; refine qy ?_
 refine rc rfl rfl rfl rfl rfl rfl axc (axr) (⟨CoC.one (yq (CoP.refl _) (CoP.refl _) (CoP.refl _) (CoP.refl _)), CoC.refl _, trivial⟩) rfl rfl ?_; (iterate 4 refine qy ?_); refine m9 2 ?_; refine s9 ?_
 (iterate 2 refine qy ?_); refine a6 ?_; refine sx7 ?_; refine qy ?_; refine rc rfl rfl rfl rfl rfl rfl a9i (axt) (⟨CoC.refl _, CoC.one (yq (CoP.refl _) (CoP.refl _) (CoP.refl _) (CoP.refl _)), trivial⟩) rfl rfl ?_
 (iterate 5 refine qy ?_); refine a6 ?_; refine sx7 ?_; refine qy ?_; refine rc rfl rfl rfl rfl rfl rfl a9i (ayn) (⟨CoC.refl _, CoC.one (yq (CoP.refl _) (CoP.refl _) (CoP.refl _) (CoP.refl _)), trivial⟩) rfl rfl ?_
 (iterate 5 refine qy ?_); refine a6 ?_; refine sx7 ?_; refine qy ?_; refine rc rfl rfl rfl rfl rfl rfl axf (axq) (⟨CoC.refl _, CoC.one (yq (CoP.refl _) (CoP.refl _) (CoP.refl _) (CoP.refl _)), trivial⟩) rfl rfl ?_
 (iterate 3 refine qy ?_); refine m9 3 ?_; refine s9 ?_; refine qy ?_; refine a6 ?_; refine sx7 ?_; refine qy ?_
 refine rc rfl rfl rfl rfl rfl rfl aus (av4) (⟨CoC.refl _, CoC.one (yq (CoP.refl _) (CoP.refl _) (CoP.refl _) (CoP.refl _)), trivial⟩) rfl rfl ?_; (iterate 7 refine qy ?_); refine a6 ?_; refine sx7 ?_
 (iterate 6 refine qy ?_); (iterate 3 refine rq rfl rfl rfl rfl (gtt (b5 rfl rfl)) ?_); (iterate 2 refine qy ?_); (iterate 2 refine rq rfl rfl rfl rfl (gtt (b5 (b5 rfl rfl) rfl)) ?_); (iterate 2 refine qy ?_)
 refine rq rfl rfl rfl rfl (gtt (b5 (b5 (b5 rfl rfl) rfl) rfl)) ?_; refine rm 4 rfl rfl rfl rfl rfl (gtt (b5 (b5 (b5 rfl rfl) rfl) rfl)) ?_
 refine bw rfl rfl rfl rfl rfl rfl ac8 (ah.eat (hcs := [.one (.p (asl [3, 6])), .one (.ref 4 2)]) (o1 := [(4, .arr true 1 38 2 (lf sC [3, 6]))]) (ari) rfl (by (repeat' apply And.intro) <;> first | trivial | rfl) (CoL.refl _)) (dn.refl _) ⟨⟨_, rfl, (aau (CoP.refl _) (CoP.refl _))⟩, trivial⟩ rfl (gtt (b5 (b5 (b5 rfl rfl) rfl) rfl)) ?_
 (iterate 2 refine qy ?_); (iterate 2 refine rq rfl rfl rfl rfl (gtt (b5 (b5 (b5 (b5 rfl rfl) rfl) rfl) rfl)) ?_); (iterate 2 refine qy ?_)
 refine rq rfl rfl rfl rfl (gtt (b5 (b5 (b5 (b5 (b5 rfl rfl) rfl) rfl) rfl) rfl)) ?_; refine rm 5 rfl rfl rfl rfl rfl (gtt (b5 (b5 (b5 (b5 (b5 rfl rfl) rfl) rfl) rfl) rfl)) ?_
 refine bw rfl rfl rfl rfl rfl rfl ac8 (ah.eat (hcs := [.one (.p (asl [5, 6])), .one (.ref 5 2)]) (o1 := [(5, .arr true 1 38 2 (lf sC [5, 6]))]) (ato) rfl (by (repeat' apply And.intro) <;> first | trivial | rfl) (CoL.refl _)) (dn.refl _) ⟨⟨_, rfl, (aau (CoP.refl _) (CoP.refl _))⟩, trivial⟩ rfl (gtt (b5 (b5 (b5 (b5 (b5 rfl rfl) rfl) rfl) rfl) rfl)) ?_
 (iterate 2 refine qy ?_); (iterate 2 refine rq rfl rfl rfl rfl (gtt (b5 (b5 (b5 (b5 (b5 (b5 rfl rfl) rfl) rfl) rfl) rfl) rfl)) ?_); (iterate 2 refine qy ?_)
 (iterate 3 refine rq rfl rfl rfl rfl (gtt (b5 (b5 (b5 (b5 (b5 (b5 (b5 rfl rfl) rfl) rfl) rfl) rfl) rfl) rfl)) ?_); (iterate 2 refine qy ?_)
 (iterate 2 refine rq rfl rfl rfl rfl (gtt (b5 (b5 (b5 (b5 (b5 (b5 (b5 (b5 rfl rfl) rfl) rfl) rfl) rfl) rfl) rfl) rfl)) ?_); (iterate 2 refine qy ?_)
 (iterate 2 refine rq rfl rfl rfl rfl (gtt (b5 (b5 (b5 (b5 (b5 (b5 (b5 (b5 (b5 rfl rfl) rfl) rfl) rfl) rfl) rfl) rfl) rfl) rfl)) ?_); (iterate 2 refine qy ?_); refine a6 ?_
 exact hx8 rfl rfl rfl (CoL.refl _)
end Go.Hx
end
section
namespace Go.Hx
open Go.Proofs
def w1 (l : List Fd) (p : AS) : Int := if c8 16 l = 0 ∧ (8 : Int) < bsz p then 3 else c8 16 l
section
variable {l : List Fd} {p : AS}
end
section
variable {n : Int} {l : List Fd}
end
end Go.Hx
end
