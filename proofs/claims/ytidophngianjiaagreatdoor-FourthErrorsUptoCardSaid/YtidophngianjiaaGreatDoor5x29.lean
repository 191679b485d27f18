/- A part of the proof: Hx27 Y1 Bz4. -/
import Derived.Test.YtidophngianjiaaGreatDoor5x19
import Derived.Test.YtidophngianjiaaGreatDoor5x20
import Derived.Test.YtidophngianjiaaGreatDoor5x28
set_option linter.all false
section
namespace Go.Hx
open Go.RowKit
section
variable {ro : Option Nat} {P : Program} {nt : Nat} {st : HSt} {Q : Exit → HSt → Prop}
theorem l8 {w0 : World} {cc : Ctx} {a : Act} {w : World} (hrr : ak w0 nt cc st.den a w) {d : Nat} {x : HR} (hx : am cc st.den.o x (a.tmps.getD d undef)) : ak w0 nt cc (HSt.den ⟨(d, some x) :: st.t, st.o⟩) a w := by
 refine ⟨hrr.defers, hrr.size, hrr.below, fun k y hy => ?_, hrr.objs, hrr.inj, hrr.imm, hrr.sep, hrr.was, hrr.frm, hrr.fsep, hrr.fixed⟩
 simp only [HSt.den] at hy
 rw [bd] at hy
 dsimp only at hy
 split at hy
 · rename_i hk
   subst hk
   simp only [Option.some.injEq] at hy
   subst hy
   exact hx
 · exact hrr.tmps k y hy
theorem afn {c : Code} (d : Nat) {id n n' s : Nat} {wr : Bool} {e : TypeId} {f : Nat → Nat → PV} (hd : b9 st.t d = some (.v (.one (.ref id n)))) (ho : b9 st.o id = some (.arr wr s e n' f)) (hn : n' = n)
 (h : HW (ro := ro) P nt c ⟨(d, some (.v (.one (.win id n 0 n)))) :: st.t, st.o⟩ Q) : HW (ro := ro) P nt c st Q := by
 subst hn
 refine qt st d _ (fun w0 m0 a w hr => ?_) h
 obtain ⟨cc, hold, hrr⟩ := hr
 refine ⟨cc, hold, hrr, ?_⟩
 have hu : az cc st.den.o (.ref id n') (a.tmps.getD d undef) := hrr.tmps d _ hd
 refine ⟨hu.1, hu.2.1, fun ob s2 e2 n2 ho2 hd2 => ⟨(hu.2.2 _ _ _ _ ho2 hd2).1, fun hk => ?_⟩⟩
 have he := (hu.2.2 _ _ _ _ ho2 hd2).2 hk
 obtain rfl : ob = .arr wr s e n' f := Option.some.inj (ho2.symm.trans ho)
 simp only [ae.dim, Option.some.injEq, Prod.mk.injEq] at hd2
 obtain ⟨rfl, rfl, rfl⟩ := hd2
 obtain ⟨ad, cap, hv, hc1, hc2⟩ := nb (hrr.objs _ _ ho2)
 exact ⟨ad, ad, cap, hv, by rw [he, hv]; rfl, by omega, hc1, hc2, fun _ => by cases ad <;> simp [i9]⟩
theorem ako {c : Code} (d dh : Nat) {id n n' n0 k s : Nat} {e : TypeId} {f : Nat → Nat → PV} (hd : b9 st.t d = some (.v (.one (.ref id n)))) (hh : b9 st.t dh = some (.v (.one (.win id k 0 n0)))) (ho : b9 st.o id = some (.arr true s e n' f)) (hn : n' = n) (hk : k = n) (hne : Nat.beq d dh = false)
 (hA : ∀ ad cap, n + 1 ≤ cap → HW (ro := ro) P nt c ⟨(d, some (.v (.one (.pin id n ad cap)))) :: (dh, some (bf (.raw (.slice ad n0 cap)))) :: st.t, st.o⟩ Q)
 (hB : HW (ro := ro) P nt c ⟨(d, some (bf (.sl n s true f))) :: (dh, some (bf (.sl n0 s false f))) :: st.t, (id, none) :: st.o⟩ Q) : HW (ro := ro) P nt c st Q := by
 subst hn hk
 intro w0 m0 a w hr
 obtain ⟨cc, hold, hrr⟩ := hr
 have hu : az cc st.den.o (.ref id k) (a.tmps.getD d undef) := hrr.tmps d _ hd
 have hv : az cc st.den.o (.win id k 0 n0) (a.tmps.getD dh undef) := hrr.tmps dh _ hh
 obtain ⟨ad, ad', cap, q1, q2, q3, q4, q5, q6⟩ := n8 hv ho rfl
 have hu1 := (hu.2.2 _ _ _ _ ho rfl).2 rfl
 by_cases hc : k + 1 ≤ cap
 · obtain rfl : ad' = ad := by
    rw [q6 (by omega)]
    cases ad <;> simp [i9]
   refine hA ad' cap hc w0 m0 a w ⟨cc, hold, ?_⟩
   have h1 : ak w0 nt cc (HSt.den ⟨(dh, some (bf (.raw (.slice ad' n0 cap)))) :: st.t, st.o⟩) a w := l8 hrr ⟨by simpa using q2, rfl⟩
   refine l8 (st := ⟨(dh, some (bf (.raw (.slice ad' n0 cap)))) :: st.t, st.o⟩) h1 ⟨hu1.trans q1, hu.2.1, hu.2.2⟩
 · obtain rfl : cap = k := by omega
   have hfr := hrr.freeze (id := id) ho
   rw [← nu] at hfr
   refine hB w0 m0 a w ⟨{ old := cc.old, imm := frozenImm cc w id, tab := mw hrr ho, own := cc.own, blk := cc.blk, rows := cc.rows }, hold, ?_⟩
   have hfa := kz hrr ho
   have h1 := l8 (st := ⟨st.t, (id, none) :: st.o⟩) (d := dh) (x := bf (.sl n0 s false fun a b => f (0 + a) b)) hfr (a9h hrr ho hv)
   have e0 : (fun a b => f (0 + a) b) = f := by funext a b; rw [Nat.zero_add]
   rw [e0] at h1
   refine l8 (st := ⟨(dh, some (bf (.sl n0 s false f))) :: st.t, (id, none) :: st.o⟩) h1 ?_
   rw [hu1]
   obtain ⟨A, C, r1, r2, r3, r4, r5⟩ := hfa
   refine ⟨A, C, r1, r2, r3, fun _ => ?_, r5⟩
   rw [q1] at r1
   simp only [Value.slice.injEq, true_and] at r1
   exact r1.2.symm
theorem afv {c : Code} (d dh : Nat) {id n n' n0 s cap : Nat} {ad : Option Addr} {e : TypeId} {f : Nat → Nat → PV} (hd : b9 st.t d = some (.v (.one (.pin id n ad cap)))) (hh : b9 st.t dh = some (bf (.raw (.slice ad n0 cap)))) (ho : b9 st.o id = some (.arr true s e n' f)) (hn : n' = n) (hle : n0 ≤ n) (hne : Nat.beq d dh = false)
 (h : HW (ro := ro) P nt c ⟨(d, some (.v (.one (.ref id n)))) :: (dh, some (.v (.one (.win id n 0 n0)))) :: st.t, st.o⟩ Q) : HW (ro := ro) P nt c st Q := by
 subst hn
 intro w0 m0 a w hr
 obtain ⟨cc, hold, hrr⟩ := hr
 have hu : az cc st.den.o (.pin id n' ad cap) (a.tmps.getD d undef) := hrr.tmps d _ hd
 have hv : az cc st.den.o (.p (.raw (.slice ad n0 cap))) (a.tmps.getD dh undef) := hrr.tmps dh _ hh
 obtain ⟨hv1, _⟩ := hv
 have hu1 := (hu.2.2 _ _ _ _ ho rfl).2 rfl
 refine h w0 m0 a w ⟨cc, hold, ?_⟩
 have h1 : ak w0 nt cc (HSt.den ⟨(dh, some (.v (.one (.win id n' 0 n0)))) :: st.t, st.o⟩) a w := by
  refine l8 hrr ⟨by rw [hv1]; rfl, hu.2.1, fun ob s2 e2 n2 ho2 hd2 => ⟨(hu.2.2 _ _ _ _ ho2 hd2).1, fun hk => ?_⟩⟩
  obtain rfl : ob = .arr true s e n' f := Option.some.inj (ho2.symm.trans ho)
  simp only [ae.dim, Option.some.injEq, Prod.mk.injEq] at hd2
  obtain ⟨rfl, rfl, rfl⟩ := hd2
  obtain ⟨ad2, cap2, g1, g2, g3⟩ := nb (hrr.objs _ _ ho2)
  have hown : cc.own id = .slice ad n' cap := hu1.symm.trans hu.1
  rw [hown] at g1
  simp only [Value.slice.injEq, true_and] at g1
  obtain ⟨rfl, rfl⟩ := g1
  exact ⟨ad, ad, cap, hown, hv1, by omega, g2, g3, fun _ => by cases ad <;> simp [i9]⟩
 exact l8 (st := ⟨(dh, some (.v (.one (.win id n' 0 n0)))) :: st.t, st.o⟩) h1 ⟨by rw [hu.1]; rfl, hu.2.1, hu.2.2⟩
end
end Go.Hx
end
section
namespace Go.Hx
open Go.Proofs
set_option maxRecDepth 100000
set_option maxHeartbeats 1000000
theorem wd {a b : AS} (h : cq .and .u32 (asI a) (asI b) = 0) : a &&& b = 0 := dp.1 ((gv a b).symm.trans h)
theorem qz {a b : AS} (h : ¬ cq .and .u32 (asI a) (asI b) = 0) : ¬ a &&& b = 0 := fun e => h ((gv a b).trans (congrArg asI e))
theorem aio {a b : AS} (h : cq .andNot .u32 (asI a) (asI b) = 0) : a &&& ~~~b = 0 := dp.1 ((kr a b).symm.trans h)
theorem ael {a b : AS} (h : ¬ cq .andNot .u32 (asI a) (asI b) = 0) : ¬ a &&& ~~~b = 0 := fun e => h ((kr a b).trans (congrArg asI e))
theorem vz {m : Fd} {x : AS} (h : ¬ x &&& m.lhs = 0) : c7 m x = false := by unfold c7; rw [decide_eq_false h]; rfl
theorem wo {m : Fd} {x : AS} (h : x &&& m.rhs = 0) : c7 m x = false := by simp [c7, h]
theorem a4r (a b : AS) : decide (cq .and .u32 (asI a) (asI b) = 0) = decide (a &&& b = 0) := by
 by_cases h : cq .and .u32 (asI a) (asI b) = 0
 · rw [decide_eq_true h, decide_eq_true (wd h)]
 · rw [decide_eq_false h, decide_eq_false (qz h)]
theorem anc (a b : AS) : decide (cq .andNot .u32 (asI a) (asI b) = 0) = decide (a &&& ~~~b = 0) := by
 by_cases h : cq .andNot .u32 (asI a) (asI b) = 0
 · rw [decide_eq_true h, decide_eq_true (aio h)]
 · rw [decide_eq_false h, decide_eq_false (ael h)]
theorem x4 (m : Fd) (x : AS) : (bif (bif decide (cq .and .u32 (asI x) (asI m.lhs) = 0) then !decide (cq .and .u32 (asI x) (asI m.rhs) = 0) else false) then !decide (cq .andNot .u32 (asI x) (asI m.rhs) = 0) else false) = c7 m x := by
 rw [a4r, a4r, anc]
 unfold c7
 by_cases h1 : x &&& m.lhs = 0 <;> by_cases h2 : x &&& m.rhs = 0 <;> by_cases h3 : x &&& ~~~m.rhs = 0 <;> simp only [h1, h2, h3, decide_true, decide_false, ne_eq, not_true_eq_false, not_false_eq_true, Bool.not_true, Bool.not_false, cond_true, cond_false, Bool.and_self, Bool.and_true, Bool.true_and, Bool.and_false, Bool.false_and]
theorem ly {m : Fd} {l : List AS} {i : Nat} (c : Bool) (h : i < l.length) (hs : c7 m (l.getD i default) = true) : true = (c || (l.take (i + 1)).any (c7 m)) := by
 rw [bg h, List.any_append]; simp only [List.any_cons, List.any_nil, hs, Bool.or_true, Bool.or_false]
theorem ve {m : Fd} {l : List AS} {i : Nat} (c : Bool) (h : i < l.length) (hs : c7 m (l.getD i default) = false) : (c || (l.take i).any (c7 m)) = (c || (l.take (i + 1)).any (c7 m)) := by
 rw [bg h, List.any_append]; simp only [List.any_cons, List.any_nil, hs, Bool.or_true, Bool.or_false]
def a9l (x : Nat × List AS × Bool) : Nat := x.1 + (bif x.2.2 then 1 else 0)
theorem ak1 {f : Nat} {l l' : List AS} {c : Bool} (h : 0 < f) : a9l (f - 1, l', c) < a9l (f, l, true) := by
 cases c <;> simp only [a9l, cond_true, cond_false] <;> omega
theorem a91 : goodFn Tryz.prog 108 := ⟨Tryz.f108, Tryz.func108, by kernel_rfl, by kernel_rfl⟩
theorem a85 (n : Int) (ms : List Fd) (x : AS) (h0 : 0 ≤ n) (h1 : n ≤ 16) : ai Tryz.prog 108 [pI n, pP (fdl ms), pA x] (al [pP (asl (ord (blks ms (ay n &&& ~~~x))))]) := by
 refine aj (nt := 76) ah Tryz.func108 rfl rfl l9 ?_
 refine en 1 rfl fun hn => ?_
 have hrest : cq .andNot .u32 (IntKind.wrap .u32 (1 * 2 ^ (min n.toNat 32)) - 1) (asI x) = asI (ay n &&& ~~~x) := by rw [mc h0 h1, kr]
 refine sx7 ?_; refine qy ?_; refine a6 ?_; refine sx7 ?_; refine qy ?_; refine a6 ?_
 refine gf 7 900 true 1 38 (lf sC []) (by decide) rfl (CoP.sl rfl (.inr rfl) (fun h => h) (fun i j hi _ => absurd hi (Nat.not_lt_zero i))) (.inr rfl) rfl ?_
 refine ef (ι := Unit) ⟨[(1, some _)], []⟩ ⟨⟨c9, trivial⟩, trivial⟩ (fun _i => ⟨[(7, some (.v (.one (.ref 900 (ew (ay n &&& ~~~x)).length))))], [(900, some (.arr true 1 38 (ew (ay n &&& ~~~x)).length (lf sC (ew (ay n &&& ~~~x)))))]⟩) (fun _i => True) ?_ ?_
 ·
  refine sx7 ?_; (iterate 2 refine qy ?_); refine rq rfl rfl rfl rfl rfl ?_ (hp := ⟨so h0 h1, ot h0 h1⟩); (iterate 3 refine qy ?_); refine a6 ?_; refine sx7 ?_; (iterate 2 refine qy ?_); refine a6 ?_
  refine a8 _ rfl (fun r0 => ?_) (fun r0 => ?_)
  ·
   have h0 := r0
   have h0 := of_decide_eq_false (b8 h0)
   try simp only [ty] at h0
   have hne : ¬ (ay n &&& ~~~x) = 0 := fun e => h0 (hrest.trans (congrArg asI e))
   refine gy ?_; (iterate 2 refine qy ?_); refine m9 0 ?_; refine ra 1 true rfl rfl rfl rfl rfl rfl ?_; refine qy ?_; refine a6 ?_; refine ⟨(), ?_, ?_⟩
   · trivial
   · exact ⟨⟨⟨_, rfl, (by first | exact fv (wn hne) | exact dz (wa hz))⟩, c9, trivial⟩, ⟨⟨_, rfl, (by first | exact gt (wn hne) (CoP.of_eq (congrArg (fun z => PV.raw (.int .u32 z)) hrest)) | exact du (wa hz))⟩, trivial⟩⟩
  ·
   have h0 := r0
   have h0 := of_decide_eq_true (b7 h0)
   try simp only [ty] at h0
   have hz : (ay n &&& ~~~x) = 0 := dp.1 (hrest.symm.trans h0)
   refine aa ?_; refine ⟨(), ?_, ?_⟩
   · trivial
   · exact ⟨⟨⟨_, rfl, (by first | exact fv (wn hne) | exact dz (wa hz))⟩, c9, trivial⟩, ⟨⟨_, rfl, (by first | exact gt (wn hne) (CoP.of_eq (congrArg (fun z => PV.raw (.int .u32 z)) hrest)) | exact du (wa hz))⟩, trivial⟩⟩
 · rintro _ _
   refine a7 ?_; refine sx7 ?_; refine qy ?_; refine a6 ?_; refine ab ?_
   refine ao (ι := (Nat × List AS × Bool)) ⟨[(1, some _)], []⟩ ⟨⟨c9, trivial⟩, trivial⟩ (fun y => ⟨[(7, some (.v (.one (.ref 900 y.2.1.length)))), (9, some (vB y.2.2))], [(900, some (.arr true 1 38 y.2.1.length (lf sC y.2.1)))]⟩) (fun y => BkI ms (blks ms (ay n &&& ~~~x)) y) (fun y => a9l y) ((18446744073709551616, ew (ay n &&& ~~~x), true)) (ahn ms (ay n &&& ~~~x)) ⟨⟨zy, zy, trivial⟩, ⟨u9, trivial⟩⟩ ?_
   rintro ⟨f, l, ag⟩ hI
   refine a7 ?_; refine sx7 ?_; refine qy ?_; refine a6 ?_; refine a8 _ rfl (fun r1 => ?_) (fun r1 => ?_)
   ·
    have h1 := r1
    obtain rfl : ag = true := r1
    obtain ⟨hI2, hf⟩ := ajt hI
    have hok := hI.ok
    refine aa ?_; refine ab ?_; refine sx7 ?_; refine qy ?_; refine a6 ?_; refine sx7 ?_; (iterate 3 refine qy ?_); refine a6 ?_; refine ab ?_
    refine ao (ι := Nat) ⟨[(1, some _), (26, some _), (27, some _)], []⟩ ⟨⟨c9, c9, c9, trivial⟩, trivial⟩ (fun j => ⟨[(7, some (.v (.one (.ref 900 (bj (ms.take j) l).length)))), (9, some (vB (ge (ms.take j) l))), (28, some (vI j))], [(900, some (.arr true 1 38 (bj (ms.take j) l).length (lf sC (bj (ms.take j) l))))]⟩) (fun j => j ≤ ms.length) (fun j => ms.length - j) (0) (Nat.zero_le _) ⟨⟨zy, ⟨_, rfl, (CoR.refl _)⟩, zy, trivial⟩, ⟨u9, trivial⟩⟩ ?_
    rintro j hj
    have hokj : OkB (bj (ms.take j) l) := ww hok
    have hlj := a1s (ada (m := (ms.getD j default)) hokj)
    refine sx7 ?_; refine qy ?_; refine a6 ?_; refine a7 ?_; refine a8 _ rfl (fun r2 => ?_) (fun r2 => ?_)
    ·
     have h2 := of_decide_eq_true r2
     try simp only [ty] at h2
     refine aa ?_; refine a7 ?_; refine ab ?_; refine sx7 ?_; (iterate 2 refine qy ?_); refine m9 2 ?_; refine s9 ?_; refine a6 ?_; refine sx7 ?_; (iterate 3 refine qy ?_); refine a6 ?_; refine ab ?_
     refine afn 32 rfl rfl rfl ?_
     refine ao (ι := (Nat × Bool)) ⟨[(1, some _), (11, some _), (26, some _), (27, some _), (28, some _), (33, some _)], [(2, some _)]⟩ ⟨⟨c9, c9, c9, c9, c9, c9, trivial⟩, ⟨u9, trivial⟩⟩ (fun y => ⟨[(7, some (.v (.one (.ref (bif y.2 then 900 else 951) (stB (ms.getD j default) (bj (ms.take j) l) y.1).length)))), (9, some (vB (ge (ms.take j) l || ((bj (ms.take j) l).take y.1).any (c7 (ms.getD j default))))), (34, some (vI y.1)), (32, some (bif y.2 then .v (.one (.win 900 (stB (ms.getD j default) (bj (ms.take j) l) y.1).length 0 (bj (ms.take j) l).length)) else bf (.sl (bj (ms.take j) l).length 1 false (ud (bj (ms.take j) l) y.1))))], [(bif y.2 then 900 else 951, some (.arr true 1 38 (stB (ms.getD j default) (bj (ms.take j) l) y.1).length (lf sC (stB (ms.getD j default) (bj (ms.take j) l) y.1))))]⟩) (fun y => y.1 ≤ (bj (ms.take j) l).length) (fun y => (bj (ms.take j) l).length - y.1) ((0, true)) (Nat.zero_le _) ⟨⟨⟨_, rfl, (dz (yp _ _))⟩, ⟨_, rfl, (cob (by simp))⟩, ⟨_, rfl, (CoR.refl _)⟩, ⟨_, rfl, (CoR.of_eq (by rw [yp]; rfl))⟩, trivial⟩, ⟨⟨_, rfl, (du (yp _ _))⟩, trivial⟩⟩ ?_
     rintro ⟨i, b⟩ hi
     have hi : i ≤ (bj (ms.take j) l).length := hi
     have hsl := ap0 (ms.getD j default) (bj (ms.take j) l) i
     have hsl2 := a84 (ms.getD j default) (bj (ms.take j) l) i
     rcases b with _ | _
     ·
      show HW _ _ _ ⟨_ :: _, _⟩ _
      refine sx7 ?_; refine qy ?_; refine a6 ?_; refine a7 ?_; refine a8 _ rfl (fun r3 => ?_) (fun r3 => ?_)
      ·
       have h3 := of_decide_eq_true r3
       try simp only [ty] at h3
       have hil : i < (bj (ms.take j) l).length := by omega
       refine aa ?_; refine a7 ?_; refine ab ?_; refine sx7 ?_; (iterate 2 refine qy ?_)
       refine rq (out := ⟨_, .v (.one (.p (asC ((bj (ms.take j) l).getD i default))))⟩) rfl rfl rfl (congrArg (fun z => some (Out.mk _ (HR.v (HC.one (HV.p z))))) (am5 (bj (ms.take j) l) i)) rfl ?_
       (iterate 2 refine qy ?_); refine a6 ?_
       refine ef (ι := Unit) ⟨[(1, some _), (7, some _), (9, some _), (11, some _), (12, some _), (13, some _), (26, some _), (27, some _), (28, some _), (32, some _), (33, some _), (34, some _)], [(2, some _)]⟩ ⟨⟨c9, c9, c9, c9, c9, c9, c9, c9, c9, c9, c9, c9, trivial⟩, ⟨u9, trivial⟩⟩ (fun _i => ⟨[(57, some (vB (c7 (ms.getD j default) ((bj (ms.take j) l).getD i default))))], [(951, some (.arr true 1 38 (stB (ms.getD j default) (bj (ms.take j) l) i).length (lf sC (stB (ms.getD j default) (bj (ms.take j) l) i))))]⟩) (fun _i => True) ?_ ?_
       ·
        refine gy ?_; (iterate 6 refine qy ?_); refine ca rfl rfl (fun r4 => ?_) (fun r4 => ?_)
        ·
         have h4 := of_decide_eq_true r4
         try simp only [ty] at h4
         have g1 : ((bj (ms.take j) l).getD i default) &&& (ms.getD j default).lhs = 0 := wd h4
         (iterate 5 refine qy ?_ (hg := (gtt r4))); (iterate 2 refine qy ?_); refine ca rfl rfl (fun r5 => ?_) (fun r5 => ?_)
         ·
          have h5 := r5
          have h5 := im r4 h5
          have h5 := of_decide_eq_false (b8 h5)
          try simp only [ty] at h5
          have g2 : ¬ ((bj (ms.take j) l).getD i default) &&& (ms.getD j default).rhs = 0 := qz h5
          (iterate 5 refine qy ?_ (hg := (gtt r5))); refine qy ?_; refine a6 ?_; refine ⟨(), ?_, ?_⟩
          · trivial
          · exact ⟨⟨⟨_, rfl, (cob (by first | exact x4 _ _ | exact (vz g1).symm | exact (wo g2).symm))⟩, c9, c9, c9, c9, c9, c9, c9, c9, c9, c9, c9, c9, trivial⟩, ⟨u9, u9, trivial⟩⟩
         ·
          have h5 := r5
          have h5 := im r4 h5
          have h5 := of_decide_eq_true (b7 h5)
          try simp only [ty] at h5
          have g2 : ((bj (ms.take j) l).getD i default) &&& (ms.getD j default).rhs = 0 := wd h5
          (iterate 5 refine k9 (gft r5) ?_); refine rq rfl rfl rfl rfl rfl ?_ (hp := r5); refine a6 ?_; refine ⟨(), ?_, ?_⟩
          · trivial
          · exact ⟨⟨⟨_, rfl, (cob (by first | exact x4 _ _ | exact (vz g1).symm | exact (wo g2).symm))⟩, c9, c9, c9, c9, c9, c9, c9, c9, c9, c9, c9, c9, trivial⟩, ⟨u9, u9, trivial⟩⟩
        ·
         have h4 := of_decide_eq_false r4
         try simp only [ty] at h4
         have g1 : ¬ ((bj (ms.take j) l).getD i default) &&& (ms.getD j default).lhs = 0 := qz h4
         (iterate 5 refine k9 (gft r4) ?_); refine rq rfl rfl rfl rfl rfl ?_ (hp := r4); refine qy ?_; (iterate 5 refine k9 rfl ?_); refine qy ?_; refine a6 ?_; refine ⟨(), ?_, ?_⟩
         · trivial
         · exact ⟨⟨⟨_, rfl, (cob (by first | exact x4 _ _ | exact (vz g1).symm | exact (wo g2).symm))⟩, c9, c9, c9, c9, c9, c9, c9, c9, c9, c9, c9, c9, trivial⟩, ⟨u9, u9, trivial⟩⟩
       · rintro _ _
         refine a8 _ rfl (fun r6 => ?_) (fun r6 => ?_)
         ·
          have h6 := r6
          have hs : c7 (ms.getD j default) ((bj (ms.take j) l).getD i default) = true := r6
          have hl2 : (stB (ms.getD j default) (bj (ms.take j) l) (i + 1)).length = (stB (ms.getD j default) (bj (ms.take j) l) i).length + 1 := by rw [a3o hil hs, List.length_append, List.length_set]; rfl
          refine sx7 ?_; (iterate 7 refine qy ?_); refine s9 ?_; refine a6 ?_; refine sx7 ?_; (iterate 5 refine qy ?_); refine m9 3 ?_; refine ra 4 true rfl rfl rfl rfl rfl rfl ?_; refine qy ?_; refine a6 ?_
          refine gy ?_; refine qy ?_; refine a6 ?_; refine gy ?_; (iterate 2 refine qy ?_); refine a6 ?_
          first | (refine ⟨(i + 1, false), ?_, ?_, ?_⟩
                   · show i + 1 ≤ _; omega
                   · first | omega | (dsimp only; omega)
                   · exact ⟨⟨⟨_, rfl, (CoR.of_eq (congrArg (fun z => HR.v (.one (.ref 951 z))) hl2.symm))⟩, ⟨_, rfl, (cob (ly _ hil hs))⟩, ⟨_, rfl, (CoR.refl _)⟩, ⟨_, rfl, (CoC.one (wt rfl))⟩, c9, c9, c9, c9, c9, c9, trivial⟩, ⟨⟨_, rfl, (lw hil hs rfl (gv _ _) (CoP.of_eq (congrArg (fun z => PV.raw (.int .u32 z)) (kr _ _))))⟩, u9, trivial⟩⟩)
                | (refine ⟨(i + 1, false), ?_, ?_, ?_⟩
                   · show i + 1 ≤ _; omega
                   · first | omega | (dsimp only; omega)
                   · exact ⟨⟨⟨_, rfl, (dz (ip hil hs))⟩, ⟨_, rfl, (cob (ve _ hil hs))⟩, ⟨_, rfl, (CoR.refl _)⟩, ⟨_, rfl, (CoC.one (wt rfl))⟩, c9, c9, c9, c9, c9, c9, trivial⟩, ⟨⟨_, rfl, (du (ip hil hs))⟩, u9, trivial⟩⟩)
         ·
          have h6 := r6
          have hs : c7 (ms.getD j default) ((bj (ms.take j) l).getD i default) = false := r6
          refine aa ?_; refine gy ?_; (iterate 2 refine qy ?_); refine a6 ?_
          first | (refine ⟨(i + 1, false), ?_, ?_, ?_⟩
                   · show i + 1 ≤ _; omega
                   · first | omega | (dsimp only; omega)
                   · exact ⟨⟨⟨_, rfl, (CoR.of_eq (congrArg (fun z => HR.v (.one (.ref 951 z))) hl2.symm))⟩, ⟨_, rfl, (cob (ly _ hil hs))⟩, ⟨_, rfl, (CoR.refl _)⟩, ⟨_, rfl, (CoC.one (wt rfl))⟩, c9, c9, c9, c9, c9, c9, trivial⟩, ⟨⟨_, rfl, (lw hil hs rfl (gv _ _) (CoP.of_eq (congrArg (fun z => PV.raw (.int .u32 z)) (kr _ _))))⟩, u9, trivial⟩⟩)
                | (refine ⟨(i + 1, false), ?_, ?_, ?_⟩
                   · show i + 1 ≤ _; omega
                   · first | omega | (dsimp only; omega)
                   · exact ⟨⟨⟨_, rfl, (dz (ip hil hs))⟩, ⟨_, rfl, (cob (ve _ hil hs))⟩, ⟨_, rfl, (CoR.refl _)⟩, ⟨_, rfl, (CoC.one (wt rfl))⟩, c9, c9, c9, c9, c9, c9, trivial⟩, ⟨⟨_, rfl, (du (ip hil hs))⟩, u9, trivial⟩⟩)
      ·
       have h3 := of_decide_eq_false r3
       try simp only [ty] at h3
       obtain rfl : i = (bj (ms.take j) l).length := by omega
       refine vo 7 900 rfl rfl rfl rfl ?_; refine ar ?_; refine gy ?_; (iterate 2 refine qy ?_); refine a6 ?_; refine ⟨j + 1, ?_, ?_, ?_⟩
       · show j + 1 ≤ _; omega
       · first | omega | (dsimp only; omega)
       · exact ⟨⟨⟨_, rfl, (dz (by rw [sb (by omega), s3]))⟩, ⟨_, rfl, (cob (by rw [a5d (by omega), List.take_length]))⟩, zy, c9, c9, c9, trivial⟩, ⟨⟨_, rfl, (du (by rw [sb (by omega), s3]))⟩, trivial⟩⟩
     ·
      show HW _ _ _ ⟨_ :: _, _⟩ _
      refine sx7 ?_; refine qy ?_; refine a6 ?_; refine a7 ?_; refine a8 _ rfl (fun r7 => ?_) (fun r7 => ?_)
      ·
       have h7 := of_decide_eq_true r7
       try simp only [ty] at h7
       have hil : i < (bj (ms.take j) l).length := by omega
       refine aa ?_; refine a7 ?_; refine ab ?_; refine sx7 ?_; (iterate 2 refine qy ?_)
       refine rq (out := ⟨_, .v (.one (.p (asC ((bj (ms.take j) l).getD i default))))⟩) rfl rfl rfl (congrArg (fun z => some (Out.mk _ (HR.v (HC.one (HV.p z))))) ((show lf sC (stB (ms.getD j default) (bj (ms.take j) l) i) (0 + i) 0 = _ by rw [Nat.zero_add]; exact congrArg asC (akm hil)))) rfl ?_
       (iterate 2 refine qy ?_); refine a6 ?_
       refine ef (ι := Unit) ⟨[(1, some _), (7, some _), (9, some _), (11, some _), (12, some _), (13, some _), (26, some _), (27, some _), (28, some _), (32, some _), (33, some _), (34, some _)], [(2, some _)]⟩ ⟨⟨c9, c9, c9, c9, c9, c9, c9, c9, c9, c9, c9, c9, trivial⟩, ⟨u9, trivial⟩⟩ (fun _i => ⟨[(57, some (vB (c7 (ms.getD j default) ((bj (ms.take j) l).getD i default))))], [(900, some (.arr true 1 38 (stB (ms.getD j default) (bj (ms.take j) l) i).length (lf sC (stB (ms.getD j default) (bj (ms.take j) l) i))))]⟩) (fun _i => True) ?_ ?_
       ·
        refine gy ?_; (iterate 6 refine qy ?_); refine ca rfl rfl (fun r8 => ?_) (fun r8 => ?_)
        ·
         have h8 := of_decide_eq_true r8
         try simp only [ty] at h8
         have g1 : ((bj (ms.take j) l).getD i default) &&& (ms.getD j default).lhs = 0 := wd h8
         (iterate 5 refine qy ?_ (hg := (gtt r8))); (iterate 2 refine qy ?_); refine ca rfl rfl (fun r9 => ?_) (fun r9 => ?_)
         ·
          have h9 := r9
          have h9 := im r8 h9
          have h9 := of_decide_eq_false (b8 h9)
          try simp only [ty] at h9
          have g2 : ¬ ((bj (ms.take j) l).getD i default) &&& (ms.getD j default).rhs = 0 := qz h9
          (iterate 5 refine qy ?_ (hg := (gtt r9))); refine qy ?_; refine a6 ?_; refine ⟨(), ?_, ?_⟩
          · trivial
          · exact ⟨⟨⟨_, rfl, (cob (by first | exact x4 _ _ | exact (vz g1).symm | exact (wo g2).symm))⟩, c9, c9, c9, c9, c9, c9, c9, c9, c9, c9, c9, c9, trivial⟩, ⟨u9, u9, trivial⟩⟩
         ·
          have h9 := r9
          have h9 := im r8 h9
          have h9 := of_decide_eq_true (b7 h9)
          try simp only [ty] at h9
          have g2 : ((bj (ms.take j) l).getD i default) &&& (ms.getD j default).rhs = 0 := wd h9
          (iterate 5 refine k9 (gft r9) ?_); refine rq rfl rfl rfl rfl rfl ?_ (hp := r9); refine a6 ?_; refine ⟨(), ?_, ?_⟩
          · trivial
          · exact ⟨⟨⟨_, rfl, (cob (by first | exact x4 _ _ | exact (vz g1).symm | exact (wo g2).symm))⟩, c9, c9, c9, c9, c9, c9, c9, c9, c9, c9, c9, c9, trivial⟩, ⟨u9, u9, trivial⟩⟩
        ·
         have h8 := of_decide_eq_false r8
         try simp only [ty] at h8
         have g1 : ¬ ((bj (ms.take j) l).getD i default) &&& (ms.getD j default).lhs = 0 := qz h8
         (iterate 5 refine k9 (gft r8) ?_); refine rq rfl rfl rfl rfl rfl ?_ (hp := r8); refine qy ?_; (iterate 5 refine k9 rfl ?_); refine qy ?_; refine a6 ?_; refine ⟨(), ?_, ?_⟩
         · trivial
         · exact ⟨⟨⟨_, rfl, (cob (by first | exact x4 _ _ | exact (vz g1).symm | exact (wo g2).symm))⟩, c9, c9, c9, c9, c9, c9, c9, c9, c9, c9, c9, c9, trivial⟩, ⟨u9, u9, trivial⟩⟩
       · rintro _ _
         refine a8 _ rfl (fun r10 => ?_) (fun r10 => ?_)
         ·
          have h10 := r10
          have hs : c7 (ms.getD j default) ((bj (ms.take j) l).getD i default) = true := r10
          have hl2 : (stB (ms.getD j default) (bj (ms.take j) l) (i + 1)).length = (stB (ms.getD j default) (bj (ms.take j) l) i).length + 1 := by rw [a3o hil hs, List.length_append, List.length_set]; rfl
          refine sx7 ?_; (iterate 7 refine qy ?_); refine s9 ?_; refine a6 ?_; refine a7 ?_; refine ako 7 32 rfl rfl rfl rfl rfl rfl (fun ad cap hcap => ?_) ?_
          ·
           refine gy ?_; (iterate 5 refine qy ?_); refine m9 5 ?_; refine ra 6 true rfl rfl rfl rfl rfl rfl ?_; refine qy ?_; refine a6 ?_; refine afv 7 32 rfl rfl rfl rfl (by dsimp only at *; omega) rfl ?_
           refine gy ?_; refine qy ?_; refine a6 ?_; refine gy ?_; (iterate 2 refine qy ?_); refine a6 ?_
           first | (refine ⟨(i + 1, true), ?_, ?_, ?_⟩
                    · show i + 1 ≤ _; omega
                    · first | omega | (dsimp only; omega)
                    · exact ⟨⟨⟨_, rfl, (CoR.of_eq (congrArg (fun z => HR.v (.one (.ref 900 z))) hl2.symm))⟩, ⟨_, rfl, (cob (ly _ hil hs))⟩, ⟨_, rfl, (CoR.refl _)⟩, ⟨_, rfl, (CoR.of_eq (congrArg (fun z => HR.v (.one (.win 900 z 0 _))) hl2.symm))⟩, c9, c9, c9, c9, c9, c9, trivial⟩, ⟨⟨_, rfl, (lw hil hs rfl (gv _ _) (CoP.of_eq (congrArg (fun z => PV.raw (.int .u32 z)) (kr _ _))))⟩, u9, trivial⟩⟩)
                 | (refine ⟨(i + 1, false), ?_, ?_, ?_⟩
                    · show i + 1 ≤ _; omega
                    · first | omega | (dsimp only; omega)
                    · exact ⟨⟨⟨_, rfl, (CoR.of_eq (congrArg (fun z => HR.v (.one (.ref 951 z))) hl2.symm))⟩, ⟨_, rfl, (cob (ly _ hil hs))⟩, ⟨_, rfl, (CoR.refl _)⟩, ⟨_, rfl, (CoC.one (a5y hil))⟩, c9, c9, c9, c9, c9, c9, trivial⟩, ⟨⟨_, rfl, (lw hil hs rfl (gv _ _) (CoP.of_eq (congrArg (fun z => PV.raw (.int .u32 z)) (kr _ _))))⟩, u9, trivial⟩⟩)
                 | (refine ⟨(i + 1, true), ?_, ?_, ?_⟩
                    · show i + 1 ≤ _; omega
                    · first | omega | (dsimp only; omega)
                    · exact ⟨⟨⟨_, rfl, (dz (ip hil hs))⟩, ⟨_, rfl, (cob (ve _ hil hs))⟩, ⟨_, rfl, (CoR.refl _)⟩, ⟨_, rfl, (CoR.of_eq (congrArg (fun z => HR.v (.one (.win 900 z 0 _))) (congrArg List.length (ip hil hs)).symm))⟩, c9, c9, c9, c9, c9, c9, trivial⟩, ⟨⟨_, rfl, (du (ip hil hs))⟩, u9, trivial⟩⟩)
          ·
           refine gy ?_; (iterate 5 refine qy ?_); refine m9 950 ?_; refine ra 951 true rfl rfl rfl rfl rfl rfl ?_; refine qy ?_; refine a6 ?_; refine gy ?_; refine qy ?_; refine a6 ?_; refine gy ?_
           (iterate 2 refine qy ?_); refine a6 ?_
           first | (refine ⟨(i + 1, true), ?_, ?_, ?_⟩
                    · show i + 1 ≤ _; omega
                    · first | omega | (dsimp only; omega)
                    · exact ⟨⟨⟨_, rfl, (CoR.of_eq (congrArg (fun z => HR.v (.one (.ref 900 z))) hl2.symm))⟩, ⟨_, rfl, (cob (ly _ hil hs))⟩, ⟨_, rfl, (CoR.refl _)⟩, ⟨_, rfl, (CoR.of_eq (congrArg (fun z => HR.v (.one (.win 900 z 0 _))) hl2.symm))⟩, c9, c9, c9, c9, c9, c9, trivial⟩, ⟨⟨_, rfl, (lw hil hs rfl (gv _ _) (CoP.of_eq (congrArg (fun z => PV.raw (.int .u32 z)) (kr _ _))))⟩, u9, trivial⟩⟩)
                 | (refine ⟨(i + 1, false), ?_, ?_, ?_⟩
                    · show i + 1 ≤ _; omega
                    · first | omega | (dsimp only; omega)
                    · exact ⟨⟨⟨_, rfl, (CoR.of_eq (congrArg (fun z => HR.v (.one (.ref 951 z))) hl2.symm))⟩, ⟨_, rfl, (cob (ly _ hil hs))⟩, ⟨_, rfl, (CoR.refl _)⟩, ⟨_, rfl, (CoC.one (a5y hil))⟩, c9, c9, c9, c9, c9, c9, trivial⟩, ⟨⟨_, rfl, (lw hil hs rfl (gv _ _) (CoP.of_eq (congrArg (fun z => PV.raw (.int .u32 z)) (kr _ _))))⟩, u9, trivial⟩⟩)
                 | (refine ⟨(i + 1, true), ?_, ?_, ?_⟩
                    · show i + 1 ≤ _; omega
                    · first | omega | (dsimp only; omega)
                    · exact ⟨⟨⟨_, rfl, (dz (ip hil hs))⟩, ⟨_, rfl, (cob (ve _ hil hs))⟩, ⟨_, rfl, (CoR.refl _)⟩, ⟨_, rfl, (CoR.of_eq (congrArg (fun z => HR.v (.one (.win 900 z 0 _))) (congrArg List.length (ip hil hs)).symm))⟩, c9, c9, c9, c9, c9, c9, trivial⟩, ⟨⟨_, rfl, (du (ip hil hs))⟩, u9, trivial⟩⟩)
         ·
          have h10 := r10
          have hs : c7 (ms.getD j default) ((bj (ms.take j) l).getD i default) = false := r10
          refine aa ?_; refine gy ?_; (iterate 2 refine qy ?_); refine a6 ?_
          first | (refine ⟨(i + 1, true), ?_, ?_, ?_⟩
                   · show i + 1 ≤ _; omega
                   · first | omega | (dsimp only; omega)
                   · exact ⟨⟨⟨_, rfl, (CoR.of_eq (congrArg (fun z => HR.v (.one (.ref 900 z))) hl2.symm))⟩, ⟨_, rfl, (cob (ly _ hil hs))⟩, ⟨_, rfl, (CoR.refl _)⟩, ⟨_, rfl, (CoR.of_eq (congrArg (fun z => HR.v (.one (.win 900 z 0 _))) hl2.symm))⟩, c9, c9, c9, c9, c9, c9, trivial⟩, ⟨⟨_, rfl, (lw hil hs rfl (gv _ _) (CoP.of_eq (congrArg (fun z => PV.raw (.int .u32 z)) (kr _ _))))⟩, u9, trivial⟩⟩)
                | (refine ⟨(i + 1, false), ?_, ?_, ?_⟩
                   · show i + 1 ≤ _; omega
                   · first | omega | (dsimp only; omega)
                   · exact ⟨⟨⟨_, rfl, (CoR.of_eq (congrArg (fun z => HR.v (.one (.ref 951 z))) hl2.symm))⟩, ⟨_, rfl, (cob (ly _ hil hs))⟩, ⟨_, rfl, (CoR.refl _)⟩, ⟨_, rfl, (CoC.one (a5y hil))⟩, c9, c9, c9, c9, c9, c9, trivial⟩, ⟨⟨_, rfl, (lw hil hs rfl (gv _ _) (CoP.of_eq (congrArg (fun z => PV.raw (.int .u32 z)) (kr _ _))))⟩, u9, trivial⟩⟩)
                | (refine ⟨(i + 1, true), ?_, ?_, ?_⟩
                   · show i + 1 ≤ _; omega
                   · first | omega | (dsimp only; omega)
                   · exact ⟨⟨⟨_, rfl, (dz (ip hil hs))⟩, ⟨_, rfl, (cob (ve _ hil hs))⟩, ⟨_, rfl, (CoR.refl _)⟩, ⟨_, rfl, (CoR.of_eq (congrArg (fun z => HR.v (.one (.win 900 z 0 _))) (congrArg List.length (ip hil hs)).symm))⟩, c9, c9, c9, c9, c9, c9, trivial⟩, ⟨⟨_, rfl, (du (ip hil hs))⟩, u9, trivial⟩⟩)
      ·
       have h7 := of_decide_eq_false r7
       try simp only [ty] at h7
       obtain rfl : i = (bj (ms.take j) l).length := by omega
       refine ar ?_; refine gy ?_; (iterate 2 refine qy ?_); refine a6 ?_; refine ⟨j + 1, ?_, ?_, ?_⟩
       · show j + 1 ≤ _; omega
       · first | omega | (dsimp only; omega)
       · exact ⟨⟨⟨_, rfl, (dz (by rw [sb (by omega), s3]))⟩, ⟨_, rfl, (cob (by rw [a5d (by omega), List.take_length]))⟩, zy, c9, c9, c9, trivial⟩, ⟨⟨_, rfl, (du (by rw [sb (by omega), s3]))⟩, trivial⟩⟩
    ·
     have h2 := of_decide_eq_false r2
     try simp only [ty] at h2
     obtain rfl : j = ms.length := by omega
     rw [show ms.take ms.length = ms from List.take_length]
     refine ar ?_; refine ⟨(f - 1, bj ms l, ge ms l), ?_, ?_, ?_⟩
     · exact hI2
     · exact ak1 hf
     · exact ⟨⟨zy, zy, c9, trivial⟩, ⟨u9, trivial⟩⟩
   ·
    have h1 := r1
    obtain rfl : ag = false := r1
    have hl : l = (blks ms (ay n &&& ~~~x)) := hI.f rfl
    subst hl
    refine ar ?_; refine a7 ?_; refine ce 7 rfl rfl rfl ?_; refine gy ?_; refine qy ?_
    refine rc rfl rfl rfl rfl rfl rfl zp (a03 (blks ms (ay n &&& ~~~x)) (Nat.le_trans (a1s hI.ok) (by decide))) (CoL.refl _) rfl rfl ?_; refine qy ?_; refine a6 ?_
    exact hx8 rfl rfl rfl (CoL.refl _)
end Go.Hx
end
section
namespace Go.Hx
theorem aku {f : Fd} {k : Nat} (h : k < (aw f.rhs).length) : (sgl f).getD k default = ⟨f.lhs, aai ((aw f.rhs).getD k default)⟩ := by
 unfold sgl
 simp [List.getD_eq_getElem?_getD, List.getElem?_eq_getElem h]
theorem a04 (f : Fd) : (sgl f).length = (aw f.rhs).length := by unfold sgl; rw [List.length_map]
theorem a95 {fs ms : List Fd} {i k : Nat} (h : k < (aw (fs.getD i default).rhs).length) : fq fs ms i (k + 1) = fq fs ms i k ++ [⟨(fs.getD i default).lhs, aai ((aw (fs.getD i default).rhs).getD k default)⟩] := by
 rw [aen (by rw [a04]; exact h), aku h]
theorem a8j {fs ms : List Fd} {i : Nat} (h : i < fs.length) : fq fs ms (i + 1) 0 = fq fs ms i (aw (fs.getD i default).rhs).length := by rw [ad8 h, a04]
theorem amp {a b : AS} {k : Nat} : (a ||| b) >>> k = 0 ↔ a >>> k = 0 ∧ b >>> k = 0 := by
 rw [BitVec.ushiftRight_or_distrib]
 constructor
 · intro h
   refine ⟨ur fun i hi => ?_, ur fun i hi => ?_⟩ <;>
   · have := congrArg (fun z : AS => z.getLsbD i) h
     simp only [BitVec.getLsbD_or] at this
     cases h1 : (a >>> k).getLsbD i <;> cases h2 : (b >>> k).getLsbD i <;> simp_all
 · rintro ⟨h1, h2⟩
   rw [h1, h2]
   simp
theorem a8w {a b : AS} {k : Nat} (h : sub a b) (hb : b >>> k = 0) : a >>> k = 0 := by
 apply ur
 intro i hi
 have := congrArg (fun z : AS => z.getLsbD i) hb
 simp only [BitVec.getLsbD_ushiftRight] at this ⊢
 cases ha : a.getLsbD (k + i) with
 | false => simp
 | true => rw [c5.1 h _ (acp ha) ha] at this; simp at this
def vb (b : AS) (f : Fd) : Bool := !decide ((f.rhs &&& ~~~f.lhs) &&& b = 0)
def qo (l : List Fd) (o b : AS) : AS := if bsz b = 1 then (if l.any (vb b) = true then o ||| b else o) else o
def o3 (l : List Fd) (o : AS) (bs : List AS) : AS := bs.foldl (qo l) o
theorem ub {l : List Fd} {o : AS} {bs : List AS} {i : Nat} (h : i < bs.length) : o3 l o (bs.take (i + 1)) = qo l (o3 l o (bs.take i)) (bs.getD i default) := by
 unfold o3
 rw [bg h, List.foldl_append]
 rfl
section
variable {l : List Fd} {o : AS} {bs : List AS} {i : Nat}
theorem a4t (h : i < bs.length) (hq : ¬ bsz (bs.getD i default) = 1) : o3 l o (bs.take i) = o3 l o (bs.take (i + 1)) := by rw [ub h, qo, if_neg hq]
theorem a3y (h : i < bs.length) (hq : bsz (bs.getD i default) = 1) (ha : l.any (vb (bs.getD i default)) = false) : o3 l o (bs.take i) = o3 l o (bs.take (i + 1)) := by rw [ub h, qo, if_pos hq, if_neg (by rw [ha]; decide)]
theorem a4q (h : i < bs.length) (hq : bsz (bs.getD i default) = 1) (ha : l.any (vb (bs.getD i default)) = true) : o3 l o (bs.take i) ||| bs.getD i default = o3 l o (bs.take (i + 1)) := by rw [ub h, qo, if_pos hq, if_pos ha]
end
def ck (n : Int) (l m : List Fd) (x : AS) : List AS := ord (blks (ov l m) (ay n &&& ~~~x))
def ai5 (n : Int) (l m : List Fd) (x : AS) : List AS := if ckB n l m x = 0 then ck n l m x else []
def py (n : Int) (l m : List Fd) (x : AS) : AS := o3 l x (ck n l m x)
def aan (n : Int) (l m : List Fd) (x : AS) : AS := if ckB n l m x = 0 then py n l m x else 0
theorem af2 (ms : List Fd) (rest : AS) : OkB (blks ms rest) := by
 have : ∀ (f : Nat) (l : List AS), OkB l → OkB (ml ms f l) := by
  intro f
  induction f with
  | zero => intro l h; exact h
  | succ f ih =>
   intro l h
   unfold ml
   split
   · exact ih _ (ww h)
   · exact ww h
 exact this _ _ (a31 rest)
theorem yg (n : Int) (l m : List Fd) (x : AS) : (ck n l m x).length ≤ 4294967296 := Nat.le_trans (vu _) (a1s (af2 _ _))
def j0 (p : AS) (bs : List AS) : List AS := (bs.filter fun b => !decide (b &&& p = 0)).map fun b => b &&& p
theorem zo {p : AS} {bs : List AS} {i : Nat} (h : i < bs.length) (hq : ¬ bs.getD i default &&& p = 0) : j0 p (bs.take (i + 1)) = j0 p (bs.take i) ++ [bs.getD i default &&& p] := by
 unfold j0
 rw [bg h, List.filter_append, List.map_append, List.filter_cons, if_pos (by rw [decide_eq_false hq]; rfl)]
 rfl
theorem a09 {p : AS} {bs : List AS} {i : Nat} (h : i < bs.length) (hq : bs.getD i default &&& p = 0) : j0 p (bs.take (i + 1)) = j0 p (bs.take i) := by
 unfold j0
 rw [bg h, List.filter_append, List.map_append, List.filter_cons, if_neg (by rw [decide_eq_true hq]; decide)]
 simp
theorem a65 (p : AS) (bs : List AS) : (j0 p bs).length ≤ bs.length := by
 unfold j0
 rw [List.length_map]
 exact List.length_filter_le _ _
def fj (n : Int) (l m : List Fd) (x p : AS) : List AS := ord (j0 p (ck n l m x))
theorem a8u (n : Int) (l m : List Fd) (x p : AS) : (j0 p (ck n l m x)).length ≤ 8589934592 := Nat.le_trans (a65 _ _) (Nat.le_trans (yg _ _ _ _) (by decide))
def ck4 (n : Int) (l m : List Fd) (s : AS) : Int := if n < 0 ∨ 8 < n then 7 else ckB n l m s
theorem a3n {n : Int} {l m : List Fd} {s : AS} (h : n < 0 ∨ 8 < n) : ck4 n l m s = 7 := if_pos h
theorem oi {n : Int} {l m : List Fd} {s : AS} (h : ¬ (n < 0 ∨ 8 < n)) : ck4 n l m s = ckB n l m s := if_neg h
theorem qu {n : Int} {l m : List Fd} {s : AS} (h : ck4 n l m s = 0) : 0 ≤ n ∧ n ≤ 8 ∧ ckB n l m s = 0 := by
 unfold ck4 at h
 split at h
 · cases h
 · exact ⟨by omega, by omega, h⟩
theorem a1x {n : Int} {l m : List Fd} {s t : AS} (h : ckB n l m s = 0) (ht : sub t s) : ckB n l m t = 0 := vr (o5 h).1 (a8w ht (o5 h).2)
theorem a21 {n : Int} {l m : List Fd} {s t : AS} (h : ck4 n l m s = 0) (ht : sub t s) : ck4 n l m t = 0 := by
 obtain ⟨h1, h2, h3⟩ := qu h
 rw [oi (by omega)]
 exact a1x h3 ht
def aa6 (n : Int) (l m : List Fd) (x p : AS) : List AS := if ck4 n l m (x ||| p) = 0 then fj n l m x p else []
def uo (n : Int) (l m : List Fd) (p x : AS) : Option Fd := if p &&& ~~~(py n l m x) = 0 then none else if 1 < (fj n l m x p).length then some ⟨x, (fj n l m x p).getD 0 default⟩ else none
def fm (n : Int) (l m : List Fd) (p : AS) : Option Fd := (cw p).findSome? (uo n l m p)
def aaj : Option Fd → Fd × Bool
 | some v => (v, true)
 | none => (⟨0, 0⟩, false)
def s7 (n : Int) (l m : List Fd) (p : AS) : Fd × Bool := if ck4 n l m p = 0 then aaj (fm n l m p) else (⟨0, 0⟩, false)
theorem ab7 {n : Int} {l m : List Fd} {p : AS} (h : ¬ ck4 n l m p = 0) : s7 n l m p = (⟨0, 0⟩, false) := if_neg h
theorem a0h {n : Int} {l m : List Fd} {p : AS} (h : ck4 n l m p = 0) : s7 n l m p = aaj (fm n l m p) := if_pos h
theorem u6 {α β : Type} [Inhabited α] {f : α → Option β} {l : List α} {i : Nat} (h : i < l.length) (hn : (l.take i).findSome? f = none) : (l.take (i + 1)).findSome? f = f (l.getD i default) := by
 rw [bg h, List.findSome?_append, hn]
 simp only [List.findSome?_cons, List.findSome?_nil, Option.none_or]
 cases f (l.getD i default) <;> rfl
theorem aca {α β : Type} [Inhabited α] {f : α → Option β} {l : List α} {i : Nat} {v : β} (h : i < l.length) (hn : (l.take i).findSome? f = none) (hv : f (l.getD i default) = some v) : l.findSome? f = some v := by
 have h1 := u6 h hn
 rw [hv] at h1
 rw [← List.take_append_drop (i + 1) l, List.findSome?_append, h1]
 rfl
theorem a37 {s z : AS} (h : z ∈ cw s) : sub z s := by
 unfold cw at h
 split at h
 · cases h
 · exact a2h.1 h
theorem lz {α : Type} [Inhabited α] {l : List α} {i : Nat} (h : i < l.length) : l.getD i default ∈ l := by
 rw [List.getD_eq_getElem?_getD, List.getElem?_eq_getElem h]
 exact List.getElem_mem h
theorem a5l {n : Int} {l m : List Fd} {x p c : AS} : c ∈ fj n l m x p ↔ ∃ b ∈ blks (ov l m) (ay n &&& ~~~x), b &&& p ≠ 0 ∧ c = b &&& p := by
 unfold fj j0 ck
 rw [ne, List.mem_map]
 constructor
 · rintro ⟨b, hb, rfl⟩
   rw [List.mem_filter, ne] at hb
   exact ⟨b, hb.1, by simpa using hb.2, rfl⟩
 · rintro ⟨b, hb, h, rfl⟩
   exact ⟨b, List.mem_filter.2 ⟨ne.2 hb, by simpa using h⟩, rfl⟩
def a9u (V : AS → Option Fd) : Prop := ∀ p v, V p = some v → sub (v.lhs ||| v.rhs) p ∧ v.lhs ||| v.rhs ≠ p ∧ p &&& ~~~v.rhs ≠ p
theorem yu (n : Int) (l m : List Fd) : a9u (fm n l m) := by
 intro p v h
 unfold fm at h
 obtain ⟨x, hx, hv⟩ := List.exists_of_findSome?_eq_some h
 have hxp := a37 hx
 unfold uo at hv
 split at hv
 · cases hv
 · split at hv
   · rename_i hlen
     cases hv
     have hbk := (aks (ov l m) (ay n &&& ~~~x)).1
     have m0 := lz (l := fj n l m x p) (i := 0) (by omega)
     have m1 := lz (l := fj n l m x p) (i := 1) hlen
     have hnd := ae7 (j0 p (ck n l m x))
     have hne : (fj n l m x p).getD 0 default ≠ (fj n l m x p).getD 1 default := by
      intro e
      rw [List.getD_eq_getElem?_getD, List.getD_eq_getElem?_getD, List.getElem?_eq_getElem (show 0 < (fj n l m x p).length by omega), List.getElem?_eq_getElem hlen, Option.getD_some, Option.getD_some] at e
      have := (List.getElem_inj (xs := fj n l m x p) hnd).1 e
      omega
     generalize (fj n l m x p).getD 0 default = c0 at *
     generalize (fj n l m x p).getD 1 default = c1 at *
     obtain ⟨b0, hb0, hz0, rfl⟩ := a5l.1 m0
     obtain ⟨b1, hb1, hz1, rfl⟩ := a5l.1 m1
     dsimp only
     refine ⟨rg hxp aer, fun e => ?_, fun e => ?_⟩
     · obtain ⟨a, ha, h1, h2⟩ := acs hz1
       have h3 := congrArg (fun z : AS => z.getLsbD a) e
       simp only [BitVec.getLsbD_or, BitVec.getLsbD_and, h2, Bool.and_true] at h3
       have hr := c5.1 (hbk.sub hb1) a ha h1
       rw [o9 ha, Bool.and_eq_true] at hr
       have hxa : x.getLsbD a = false := by simpa using hr.2
       rw [hxa, Bool.false_or] at h3
       exact hne (by rw [hbk.one hb0 hb1 h3 h1])
     · obtain ⟨a, ha, h1, h2⟩ := acs hz0
       have h3 := congrArg (fun z : AS => z.getLsbD a) e
       simp only [o9 ha, BitVec.getLsbD_and, h1, h2] at h3
       simp at h3
   · cases hv
section
variable {V : AS → Option Fd}
def vF (V : AS → Option Fd) (s : AS) : Fd := (aaj (V s)).1
def vBo (V : AS → Option Fd) (s : AS) : Bool := (aaj (V s)).2
def pj (V : AS → Option Fd) (s : AS) : AS := (vF V s).lhs ||| (vF V s).rhs
def o8 (V : AS → Option Fd) (s : AS) : AS := s &&& ~~~(vF V s).rhs
theorem a6i {s : AS} (h : vBo V s = true) : V s = some (vF V s) := by
 unfold vBo at h
 unfold vF
 cases hv : V s with
 | none => rw [hv] at h; cases h
 | some v => rfl
def sm (V : AS → Option Fd) : Nat → List AS → List AS → List AS
 | 0, _, out => out
 | n + 1, todo, out =>
  if todo.length = 0 then out
  else if vBo V (todo.getD (todo.length - 1) default) = true then sm V n (todo.take (todo.length - 1) ++ [pj V (todo.getD (todo.length - 1) default), o8 V (todo.getD (todo.length - 1) default)]) out
  else sm V n (todo.take (todo.length - 1)) (out ++ [todo.getD (todo.length - 1) default])
def vk (V : AS → Option Fd) (p0 : AS) (x : Nat × List AS × List AS) : Prop := sm V x.1 x.2.1 x.2.2 = sm V 6562 [p0] [] ∧ jj x.2.1 < x.1 ∧ x.2.2.length + x.1 ≤ 6562
theorem ac5 {n : Int} (h8 : n ≤ 8) : vk V (ay n) (6562, [ay n], []) := by
 refine ⟨rfl, ?_, Nat.le_refl _⟩
 show 3 ^ bsz (ay n) + 0 < 6562
 have h1 := aht (n := n) (m := 8) h8 (by omega)
 have h2 : 3 ^ bsz (ay n) ≤ 3 ^ 8 := Nat.pow_le_pow_right (by omega) h1
 have h3 : 3 ^ 8 = 6561 := rfl
 omega
theorem sn {p0 : AS} {x : Nat × List AS × List AS} (h : vk V p0 x) : x.2.1.length < 6562 ∧ x.2.2.length ≤ 6562 ∧ 0 < x.1 := by
 have := a5t x.2.1
 obtain ⟨h1, h2, h3⟩ := h
 omega
theorem ag0 {p0 : AS} {x : Nat × List AS × List AS} (h : vk V p0 x) (h0 : x.2.1.length = 0) : x.2.2 = sm V 6562 [p0] [] := by
 have hp := (sn h).2.2
 obtain ⟨h1, h2, h3⟩ := h
 obtain ⟨m, hm⟩ : ∃ m, x.1 = m + 1 := ⟨x.1 - 1, by omega⟩
 rw [hm] at h1
 unfold sm at h1
 rw [if_pos h0] at h1
 exact h1
theorem adb (hV : a9u V) {s : AS} (h : vBo V s = true) : bsz (pj V s) < bsz s ∧ bsz (o8 V s) < bsz s := by
 obtain ⟨h1, h2, h3⟩ := hV s _ (a6i h)
 exact ⟨a0a h1 h2, a0a a2i h3⟩
theorem abj (hV : a9u V) {p0 : AS} {x : Nat × List AS × List AS} (h : vk V p0 x) (h0 : 0 < x.2.1.length) (hv : vBo V (x.2.1.getD (x.2.1.length - 1) default) = true) :
 vk V p0 (x.1 - 1, x.2.1.take (x.2.1.length - 1) ++ [pj V (x.2.1.getD (x.2.1.length - 1) default), o8 V (x.2.1.getD (x.2.1.length - 1) default)], x.2.2) := by
 have hp := (sn h).2.2
 obtain ⟨h1, h2, h3⟩ := h
 obtain ⟨m, hm⟩ : ∃ m, x.1 = m + 1 := ⟨x.1 - 1, by omega⟩
 rw [hm] at h1
 unfold sm at h1
 rw [if_neg (by omega), if_pos hv] at h1
 refine ⟨by rw [hm]; exact h1, ?_, by dsimp only; omega⟩
 have e := ya (x.2.1.take (x.2.1.length - 1)) [x.2.1.getD (x.2.1.length - 1) default]
 rw [← a2q h0] at e
 have e1 : jj [x.2.1.getD (x.2.1.length - 1) default] = 3 ^ bsz (x.2.1.getD (x.2.1.length - 1) default) := by simp [jj]
 generalize x.2.1.getD (x.2.1.length - 1) default = s at *
 dsimp only
 rw [ya]
 have e2 : jj [pj V s, o8 V s] = 3 ^ bsz (pj V s) + 3 ^ bsz (o8 V s) := by simp [jj]
 obtain ⟨g1, g2⟩ := adb hV hv
 obtain ⟨b, hb⟩ : ∃ b, bsz s = b + 1 := ⟨bsz s - 1, by omega⟩
 have p1 : 3 ^ bsz (pj V s) ≤ 3 ^ b := Nat.pow_le_pow_right (by omega) (by omega)
 have p2 : 3 ^ bsz (o8 V s) ≤ 3 ^ b := Nat.pow_le_pow_right (by omega) (by omega)
 have p3 : 3 ^ bsz s = 3 ^ b * 3 := by rw [hb, Nat.pow_succ]
 have p4 : 0 < 3 ^ b := Nat.pow_pos (by omega)
 omega
theorem ae1 {p0 : AS} {x : Nat × List AS × List AS} (h : vk V p0 x) (h0 : 0 < x.2.1.length) (hv : vBo V (x.2.1.getD (x.2.1.length - 1) default) = false) :
 vk V p0 (x.1 - 1, x.2.1.take (x.2.1.length - 1), x.2.2 ++ [x.2.1.getD (x.2.1.length - 1) default]) := by
 have hp := (sn h).2.2
 obtain ⟨h1, h2, h3⟩ := h
 obtain ⟨m, hm⟩ : ∃ m, x.1 = m + 1 := ⟨x.1 - 1, by omega⟩
 rw [hm] at h1
 unfold sm at h1
 rw [if_neg (by omega), if_neg (by rw [hv]; decide)] at h1
 refine ⟨by rw [hm]; exact h1, ?_, by dsimp only; rw [List.length_append, List.length_singleton]; omega⟩
 have e := ya (x.2.1.take (x.2.1.length - 1)) [x.2.1.getD (x.2.1.length - 1) default]
 rw [← a2q h0] at e
 have e1 : jj [x.2.1.getD (x.2.1.length - 1) default] = 3 ^ bsz (x.2.1.getD (x.2.1.length - 1) default) := by simp [jj]
 have p4 : 0 < 3 ^ bsz (x.2.1.getD (x.2.1.length - 1) default) := Nat.pow_pos (by omega)
 dsimp only
 omega
def lvG (V : AS → Option Fd) : Nat → AS → List AS
 | 0, s => [s]
 | n + 1, s => if vBo V s = true then lvG V n (pj V s) ++ lvG V n (o8 V s) else [s]
end
def anf (n : Int) (l m : List Fd) : List AS := sm (fm n l m) 6562 [ay n] []
def a4b (n : Int) (l m : List Fd) : List AS := if ck4 n l m 0 = 0 then z8 (anf n l m) else []
theorem aox {n : Int} {l m : List Fd} (h : ck4 n l m 0 = 0) : a4b n l m = z8 (anf n l m) := if_pos h
theorem ab6 {n : Int} {l m : List Fd} (h : ¬ ck4 n l m 0 = 0) : a4b n l m = [] := if_neg h
end Go.Hx
end
