/- A part of the proof: Ls5 W0 W1 Ls6 W2a Rbm. -/
import Derived.Test.YtidophngianjiaaGreatDoorBx15
import Derived.Test.YtidophngianjiaaGreatDoorBx18
import Derived.Test.YtidophngianjiaaGreatDoorBx19
import Derived.Test.YtidophngianjiaaGreatDoorBx20
import Derived.Test.YtidophngianjiaaGreatDoorBx21
import Derived.Test.YtidophngianjiaaGreatDoorBx27
import Derived.Test.YtidophngianjiaaGreatDoorBx29
import Derived.Test.YtidophngianjiaaGreatDoorBx30
set_option linter.all false
section
namespace Go.Hx
abbrev tbC (a:Int × List Rw):Nat → PV:=fun j=>[.raw (.int .i64 a.1),rl a.2].getD j .any
def lcR (n:Int) (ps:List AS) (p m:List Fd):(Int × List Rw) × List St × (Int × List Rw) × Int :=
 if lvE n ps = 0 then (if c8 n p m = 0 then ((n,ay (bj n ps)),(lsT n ps p m).1,(lsT n ps p m).2.1,(lsT n ps p m).2.2) else ((0,[]),[],(0,[]),c8 n p m)) else ((0,[]),[],(0,[]),lvE n ps)
section
variable {n:Int} {ps:List AS} {p m:List Fd} {l lend:List Rw}
theorem b1b (h:¬ lvE n ps = 0):lcR n ps p m = ((0,[]),[],(0,[]),lvE n ps):=if_neg h
theorem b2m (h:lvE n ps = 0) (h2:¬ c8 n p m = 0):lcR n ps p m = ((0,[]),[],(0,[]),c8 n p m):=(if_pos h).trans (if_neg h2)
theorem at7 (h:lvE n ps = 0) (h2:c8 n p m = 0):lcR n ps p m = ((n,ay (bj n ps)),(lsT n ps p m).1,(lsT n ps p m).2.1,(lsT n ps p m).2.2):=(if_pos h).trans (if_pos h2)
theorem ue:(lcR n ps p m).2.2.2 = lsC n ps p m:=by
 unfold lcR lsC
 split
 · split <;> rfl
 · rfl
theorem asb (h:(lcR n ps p m).2.2.2 = 0):((lcR n ps p m).2.2.1.2.any fun r=>decide (r = ct n)) = lsB n ps p m:=by
 have hc:=h
 rw [ue] at hc
 obtain ⟨h1,h2⟩:=uq hc
 unfold lsB
 rw [decide_eq_true hc,Bool.true_and,at7 h1 h2]
theorem asj (h:¬ (lcR n ps p m).2.2.2 = 0):lsB n ps p m = false:=by
 rw [ue] at h
 unfold lsB
 rw [decide_eq_false h]
 rfl
theorem b0b:(bif decide ((lcR n ps p m).2.2.2 = 0) then ((lcR n ps p m).2.2.1.2.any fun r=>decide (r = ct n)) else false) = lsB n ps p m:=by
 by_cases h:(lcR n ps p m).2.2.2 = 0
 · rw [decide_eq_true h,cond_true,asb h]
 · rw [decide_eq_false h,cond_false,asj h]
theorem b3e (h:lcR n ps p m = lcR n ps p m) (h2:(lcR n ps p m).2.2.2 = 0):0 ≤ n ∧ n ≤ 8:=by
 rw [ue] at h2
 obtain ⟨h1,_⟩:=uq h2
 exact ⟨(l8 h1).1,(l8 h1).2.1⟩
theorem atg:∀ {sts:List St} {l:List Rw} {i:Nat},TrZ n p m lend l sts → i ≤ sts.length → TrZ n p m lend ((trL n p m l sts).getD i default) (sts.drop i)
 | [],l,0,h,_=>h
 | s :: r,l,0,h,_=>h
 | s :: r,l,i + 1,h,hi=>by
  obtain ⟨_,_,l',e,_,h⟩:=h
  unfold trL
  rw [e]
  exact atg (i:=i) h (by simpa using hi)
theorem a7f:∀ {sts:List St} {l:List Rw} {i:Nat},i < sts.length → (trL n p m l sts).getD (i + 1) default = (dn n ((trL n p m l sts).getD i default) p m (sts.getD i default)).2.1
 | [],l,i,hi=>by simp at hi
 | s :: r,l,0,_=>by
  unfold trL
  cases r with
  | nil=>rfl
  | cons s2 r2=>rfl
 | s :: r,l,i + 1,hi=>by
  unfold trL
  exact a7f (sts:=r) (i:=i) (by simpa using hi)
theorem awn {sts:List St}:(trL n p m l sts).getD 0 default = l:=by cases sts <;> rfl
def jl (n:Int) (p m:List Fd) (l:List Rw) (sts:List St):List (Int × List Rw):=(trL n p m l sts).map fun t=>(n,t)
theorem a42 {sts:List St}:(jl n p m l sts).length = sts.length + 1:=by unfold jl;rw [List.length_map,a8s]
theorem ax0 {sts:List St} {i:Nat} (hi:i ≤ sts.length):(jl n p m l sts).getD i default = (n,(trL n p m l sts).getD i default):=by
 unfold jl
 have:i < (trL n p m l sts).length:=by rw [a8s];omega
 rw [List.getD_eq_getElem?_getD,List.getElem?_map,List.getElem?_eq_getElem this,List.getD_eq_getElem?_getD,List.getElem?_eq_getElem this]
 rfl
theorem a95 {sts:List St} {i:Nat} (hi:i < sts.length):(jl n p m l sts).take (i + 1 + 1) = (jl n p m l sts).take (i + 1) ++ [(n,(dn n ((trL n p m l sts).getD i default) p m (sts.getD i default)).2.1)]:=by
 rw [be (by rw [a42];omega),ax0 (by omega),a7f hi]
theorem ae1 {sts:List St}:(jl n p m l sts).take 1 = [(n,l)]:=by
 unfold jl
 cases sts <;> rfl
def rcR (n:Int) (ps:List AS) (p m:List Fd):List St × List (Int × List Rw) × Int :=
 if lsC n ps p m = 0 then ((lsT n ps p m).1,jl n p m (ay (bj n ps)) (lsT n ps p m).1,0) else ([],[],lsC n ps p m)
theorem aij {c:Int} (h:lsC n ps p m = c) (h2:¬ c = 0):rcR n ps p m = ([],[],c):=by
 unfold rcR
 rw [h,if_neg h2]
theorem aao (h:lsC n ps p m = 0):rcR n ps p m = ((lsT n ps p m).1,jl n p m (ay (bj n ps)) (lsT n ps p m).1,0):=if_pos h
theorem amy (h:lvE n ps = 0) (hb:c8 n p m = 0) (hc:(lsT n ps p m).2.2 = 0):∃ sts lend,lsT n ps p m = (sts,(n,lend),0) ∧ TrZ n p m lend (ay (bj n ps)) sts ∧ tok n lend = true ∧ ((∃ t,t ∈ trL n p m (ay (bj n ps)) sts ∧ ct n ∈ t) ↔ ct n ∈ lend):=by
 rcases a10 (l8 h).2.2.1 hb with ⟨e,_⟩ | ⟨sts,lend,e,h1,h2,h3,h4⟩
 · unfold lsT at hc
   rw [e] at hc
   exact absurd hc (by decide)
 · exact ⟨sts,lend,e,h2,h3,h4⟩
theorem alf {p m:List Fd}:∀ (F:Nat) (n:Int) (l:List Rw) (acc:List St),(fv F n l p m acc).1.length ≤ acc.length + F:=by
 intro F
 induction F with
 | zero=>intro n l acc;unfold fv;simp
 | succ F ih =>
  intro n l acc
  unfold fv
  split
  · simp
  · rename_i s _
    split
    rename_i n' l' e _
    split
    · have:=ih n' l' (acc ++ [s])
      simp only [List.length_append,List.length_singleton] at this
      omega
    · simp
theorem ahj (h:lvE n ps = 0) (hb:c8 n p m = 0):(lsT n ps p m).1.length ≤ FU:=by
 obtain ⟨h0,h8,h64,_⟩:=l8 h
 have hT:=a60 (ps:=ps) h0 (by omega) h64
 have hck:ckE n (ay (bj n ps)) p m = 0:=(if_pos hT).trans hb
 unfold lsT
 rw [qi hck]
 have:=alf (p:=p) (m:=m) FU n (ay (bj n ps)) []
 simpa using this
def a8t (n:Int) (t:List Rw):Bool:=t.any fun r=>decide (r = ct n)
def prX (n:Int) (ps:List AS) (p m:List Fd):Int:=idx (fun a:Int × List Rw=>a8t n a.2) (rcR n ps p m).2.1
def prC (n:Int) (ps:List AS) (p m:List Fd):Int:=if (rcR n ps p m).2.2 = 0 then (if prX n ps p m < 0 then 11 else 0) else (rcR n ps p m).2.2
def prS (n:Int) (ps:List AS) (p m:List Fd):List St:=if (rcR n ps p m).2.2 = 0 then (if prX n ps p m < 0 then [] else (rcR n ps p m).1.take (prX n ps p m).toNat) else []
theorem yf:(rcR n ps p m).2.2 = lsC n ps p m:=by
 unfold rcR
 split
 · rename_i h;exact h.symm
 · rfl
theorem am8:¬ lsC n ps p m = 11:=by
 intro h
 unfold lsC at h
 split at h
 · rename_i hv
   split at h
   · rename_i hb
     rcases a10 (l8 hv).2.2.1 hb with ⟨e,_⟩ | ⟨sts,lend,e,_⟩
     · unfold lsT at h;rw [e] at h;exact absurd h (by decide)
     · unfold lsT at h;rw [e] at h;exact absurd (show (0:Int) = 11 from h) (by decide)
   · unfold c8 dl at h
     (repeat' split at h) <;> omega
 · unfold lvE at h
   (repeat' split at h) <;> omega
theorem ahh (hc:lsC n ps p m = 0):(0 ≤ prX n ps p m) ↔ lsB n ps p m = true:=by
 obtain ⟨h1,h2⟩:=uq hc
 have hc2:(lsT n ps p m).2.2 = 0:=(a65 h1 h2).symm.trans hc
 obtain ⟨sts,lend,e,_,_,h3⟩:=amy h1 h2 hc2
 have e1:lsB n ps p m = decide (ct n ∈ lend):=by
  unfold lsB
  rw [decide_eq_true hc,Bool.true_and,e]
  exact vz
 have e2:(rcR n ps p m).2.1 = jl n p m (ay (bj n ps)) sts:=by rw [aao hc,e]
 have e3:(jl n p m (ay (bj n ps)) sts).any (fun a=>a8t n a.2) = decide (0 ≤ prX n ps p m):=by
  unfold prX
  rw [e2]
  exact a0j.symm
 rw [e1,decide_eq_true_iff,← h3,← decide_eq_true_iff (p:=0 ≤ prX n ps p m),← e3,List.any_eq_true]
 unfold jl a8t
 constructor
 · rintro ⟨x,hx,h⟩
   obtain ⟨t,ht,rfl⟩:=List.mem_map.1 hx
   exact ⟨t,ht,by rw [vz] at h;exact of_decide_eq_true h⟩
 · rintro ⟨t,ht,h⟩
   exact ⟨(n,t),List.mem_map.2 ⟨t,ht,rfl⟩,by rw [vz];exact decide_eq_true h⟩
theorem b19 (h:prC n ps p m = 11):lsB n ps p m = false ∧ lsC n ps p m = 0:=by
 unfold prC at h
 rw [yf] at h
 split at h
 · rename_i hc
   split at h
   · rename_i hx
     refine ⟨?_,hc⟩
     rw [Bool.eq_false_iff]
     intro e
     have:=(ahh hc).2 e
     omega
   · exact absurd h (by decide)
 · exact absurd h am8
theorem b1a (h:¬ prC n ps p m = 11):decide (prC n ps p m = 0) = lsB n ps p m ∧ prC n ps p m = lsC n ps p m:=by
 unfold prC at h ⊢
 rw [yf] at h ⊢
 split at h
 · rename_i hc
   split at h
   · exact absurd rfl h
   · rename_i hx
     rw [if_pos hc,if_neg hx,hc]
     refine ⟨?_,rfl⟩
     have:=(ahh hc).1 (by omega)
     rw [this]
     rfl
 · rename_i hc
   rw [if_neg hc]
   refine ⟨?_,rfl⟩
   unfold lsB
   rw [decide_eq_false hc]
   rfl
end
end Go.Hx
end
section
namespace Go.Hx
open Go.Proofs
theorem ayq {n:Int} {ps:List AS} {p m:List Fd} (h:lvE n ps = 0) (hb:c8 n p m = 0) (hc:(lsT n ps p m).2.2 = 0):TrZ n p m (lsT n ps p m).2.1.2 (ay (bj n ps)) (lsT n ps p m).1:=by
 obtain ⟨sts,lend,e,htr,_⟩:=amy h hb hc
 rw [e]
 exact htr
theorem azo {n:Int} {ps:List AS} {p m:List Fd} (h:(rcR n ps p m).2.2 = 0):(rcR n ps p m).2.1.length = (rcR n ps p m).1.length + 1:=by
 rw [yf] at h
 rw [aao h]
 exact a42
theorem b37 {n:Int} {ps:List AS} {p m:List Fd} (h:(rcR n ps p m).2.2 = 0):0 ≤ n ∧ n ≤ 16 ∧ (rcR n ps p m).1.length ≤ FU:=by
 rw [yf] at h
 obtain ⟨h1,h2⟩:=uq h
 rw [aao h]
 have:=l8 h1
 exact ⟨this.1,by omega,ahj h1 h2⟩
theorem axo {n:Int} {l:List Rw} {T:List (Int × List Rw)} {e:TypeId} {N:Nat} {f:Nat → Nat → PV} (h:T = [(n,l)]) (hN:N = 1) (h0:CoP (f 0 0) (.raw (.int .i64 n))) (h1:CoP (f 0 1) (rl l)):CoO (.arr true 2 e N f) (.arr true 2 e T.length (lf tbC T)):=by
 subst h hN
 refine ⟨fun h=>h,rfl,rfl,rfl,fun a j ha hj=>?_⟩
 have ha:a = 0:=by
  have:a < 1:=ha
  omega
 subst ha
 match j,hj with
 | 0,_=>exact h0
 | 1,_=>exact h1
theorem apl {n:Nat} {l:List St} {i:Nat} {cl:Bool} (hn:n = (l.take i).length) {f:Nat → Nat → PV} (hf:∀ a j,f a j = lf St.c l a j):CoP (.sl n 4 cl f) (stl (l.take i)):=by
 refine CoP.sl hn.symm (.inl rfl) (fun h=>by cases h) fun a j ha hj=>CoP.of_eq ?_
 rw [hf]
 show St.c (l.getD a default) j = St.c ((l.take i).getD a default) j
 have:a < i:=by rw [hn,List.length_take] at ha;omega
 rw [List.getD_eq_getElem?_getD,List.getD_eq_getElem?_getD,List.getElem?_take,if_pos this]
theorem axz (n:Int) (ps:List AS) (h:lvE n ps = 0):ai Tryz.prog 148 [pI n,pP (asl ps)] (ao [pT n (ay (bj n ps)),pI 0]):=by
 have:=ayb n ps
 rw [adv h] at this
 exact this
theorem apo (n:Int) (ps:List AS) (h:lvE n ps = 0):ai Tryz.prog 144 [pI n,pP (asl ps)] (ao [pT n (ay (bj n ps)),pI 0]):=by
 have:=axl n ps
 rw [adv h] at this
 exact this
theorem au5 (n:Int) (ps:List AS) (p m:List Fd):ai Tryz.prog 149 [pT n (ay (bj n ps)),pP (fdl p),pP (fdl m)] (ao [pP (stl (lsT n ps p m).1),pT (lsT n ps p m).2.1.1 (lsT n ps p m).2.1.2,pI (lsT n ps p m).2.2]) :=
 ayg FU n (ay (bj n ps)) p m (fun h=>aek h) (by decide)
theorem aqw (n:Int) (ps:List AS) (p m:List Fd):ai Tryz.prog 145 [pT n (ay (bj n ps)),pP (fdl p),pP (fdl m)] (ao [pP (stl (lsT n ps p m).1),pT (lsT n ps p m).2.1.1 (lsT n ps p m).2.1.2,pI (lsT n ps p m).2.2]) :=
 aua FU n (ay (bj n ps)) p m (fun h=>aek h) (by decide)
theorem alk (n:Int) (l:List Rw) (p m:List Fd) (s:St) (hT:tok n l = true) (hb:c8 n p m = 0) (h:w7 l p m s) (he:dn n l p m s = (n,(dn n l p m s).2.1,0)):ai Tryz.prog 146 [pT n l,pP (fdl p),pP (fdl m),s.pc] (ao [pT n (dn n l p m s).2.1,pI 0]):=by
 have:=a9e n l p m s ((if_pos hT).trans hb) h
 rw [he] at this
 exact this
theorem b1m {n:Int} {p m:List Fd} {l lend:List Rw} {sts:List St} {i:Nat} (hi:i < sts.length) (h:TrZ n p m lend l (sts.drop i)):tok n l = true ∧ w7 l p m (sts.getD i default) ∧ dn n l p m (sts.getD i default) = (n,(dn n l p m (sts.getD i default)).2.1,0):=by
 have e:sts.drop i = sts.getD i default :: sts.drop (i + 1):=by
  rw [List.drop_eq_getElem_cons hi,List.getD_eq_getElem?_getD,List.getElem?_eq_getElem hi];rfl
 rw [e] at h
 obtain ⟨h1,h2,l',h3,h4,h5⟩:=h
 rw [h3]
 exact ⟨h1,h2,rfl⟩
end Go.Hx
end
section
namespace Go.Hx
open Go.Proofs
set_option maxRecDepth 100000
set_option maxHeartbeats 1000000
theorem att:goodFn Tryz.prog 131:=⟨Tryz.f131,Tryz.func131,by kernel_rfl,by kernel_rfl⟩
theorem b0m (ps:List AS):ai Tryz.prog 131 [pP (asl ps)] (ao [pA (orL ps)]):=by
 refine ah (nt:=17) ae Tryz.func131 rfl rfl l9 ?_;refine sx7 ?_;refine qy ?_;refine a6 ?_;refine sx7 ?_;refine qy ?_;refine a6 ?_;(iterate 2 refine a7 ?_)
 refine d9 0 rfl fun hn=>?_
 refine gy ?_;(iterate 3 refine qy ?_);refine a6 ?_;refine ab ?_
 refine aj (ι:=Nat) ⟨[(6,some _),(7,some _)],[]⟩ ⟨⟨c9,c9,trivial⟩,trivial⟩ (fun i=>⟨[(3,some (vA (orL (ps.take i)))),(8,some (vI i))],[]⟩) (fun i=>i ≤ ps.length) (fun i=>ps.length - i) (0) (Nat.zero_le _) ⟨⟨⟨_,rfl,(CoR.refl _)⟩,zy,trivial⟩,trivial⟩ ?_
 rintro i hi
 refine sx7 ?_;refine qy ?_;refine a6 ?_;refine a7 ?_;refine a8 _ rfl (fun r0=>?_) (fun r0=>?_)
 ·
  have h0:=of_decide_eq_true r0
  try simp only [ty] at h0
  refine aa ?_;refine a7 ?_;refine ab ?_;refine sx7 ?_;(iterate 3 refine qy ?_);refine a6 ?_;refine gy ?_;(iterate 4 refine qy ?_);refine a6 ?_;refine gy ?_;(iterate 2 refine qy ?_)
  refine a6 ?_;refine ⟨i + 1, ?_, ?_, ?_⟩
  · show i + 1 ≤ _;omega
  · first | omega | (dsimp only;omega)
  · exact ⟨⟨⟨_,rfl,(fg (by rw [bOr,zd (by omega)];rfl))⟩,zy,c9,c9,trivial⟩,trivial⟩
 ·
  have h0:=of_decide_eq_false r0
  try simp only [ty] at h0
  obtain rfl:i = ps.length:=by omega
  refine ak ?_;refine sx7 ?_;(iterate 2 refine qy ?_);refine a6 ?_
  exact hx8 rfl rfl rfl (⟨cci (by rw [List.take_length]),trivial⟩)
theorem b0p:goodFn Tryz.prog 83:=⟨Tryz.f83,Tryz.func83,by kernel_rfl,by kernel_rfl⟩
theorem awe (n:Int) (ps:List AS):ai Tryz.prog 83 [pI n,pP (asl ps)] (ao [pI (lvE n ps)]):=by
 refine ah (nt:=28) ae Tryz.func83 rfl rfl l9 ?_;refine sx7 ?_;refine qy ?_;refine a6 ?_;refine a7 ?_;refine ab ?_;refine sx7 ?_;(iterate 3 refine qy ?_)
 refine b4 rfl rfl (fun r0=>?_) (fun r0=>?_)
 ·
  have h0:=of_decide_eq_true r0
  try simp only [ty] at h0
  (iterate 2 refine k9 (gtf r0) ?_);refine rq rfl rfl rfl rfl rfl ?_ (hp:=r0);refine qy ?_;refine a6 ?_;refine a8 _ rfl (fun _=>?_) (fun e=>by cases e);refine sx7 ?_;refine qy ?_;refine a6 ?_
  exact hx8 rfl rfl rfl (⟨cci (aar (by omega)).symm,trivial⟩)
 ·
  have h0:=of_decide_eq_false r0
  try simp only [ty] at h0
  (iterate 2 refine qy ?_ (hg:=(gff r0)));(iterate 2 refine qy ?_);refine a6 ?_;refine a8 _ rfl (fun r1=>?_) (fun r1=>?_)
  ·
   have h1:=r1
   have h1:=bg r0 h1
   have h1:=of_decide_eq_true h1
   try simp only [ty] at h1
   refine sx7 ?_;refine qy ?_;refine a6 ?_
   exact hx8 rfl rfl rfl (⟨cci (aar (by omega)).symm,trivial⟩)
  ·
   have h1:=r1
   have h1:=bg r0 h1
   have h1:=of_decide_eq_false h1
   try simp only [ty] at h1
   have hz0:0 ≤ n:=by omega
   have hz1:n ≤ 16:=by omega
   refine sx7 ?_;(iterate 4 refine qy ?_);refine a6 ?_;refine a8 _ rfl (fun r2=>?_) (fun r2=>?_)
   ·
    have h2:=of_decide_eq_true r2
    try simp only [ty] at h2
    refine sx7 ?_;refine qy ?_;refine a6 ?_
    exact hx8 rfl rfl rfl (⟨cci (atm (by omega) (by omega)).symm,trivial⟩)
   ·
    have h2:=of_decide_eq_false r2
    try simp only [ty] at h2
    refine a7 ?_;refine ax (E:=bf) ae ar [0,1,2,3,4,5,6,7,8,9,10,11] ?_;(iterate 4 refine qy ?_);refine b4 rfl rfl (fun r3=>?_) (fun r3=>?_)
    ·
     have h3:=of_decide_eq_true r3
     try simp only [ty] at h3
     (iterate 6 refine k9 (gtf r3) ?_);refine rq rfl rfl rfl rfl rfl ?_ (hp:=r3);refine qy ?_;refine a6 ?_;refine ⟨by kernel_rfl, ?_⟩;refine a8 _ rfl (fun _=>?_) (fun e=>by cases e);refine sx7 ?_
     refine qy ?_;refine a6 ?_
     exact hx8 rfl rfl rfl (⟨cci (aai (by omega) (by omega) (by first | exact .inl (by omega) | exact .inr (fun e=>absurd (show asI (orL ps) = IntKind.wrap .u32 (1 * 2 ^ (min n.toNat 32)) - 1 by rw [tu hz0 hz1,e]) (by assumption)))).symm,trivial⟩)
    ·
     have h3:=of_decide_eq_false r3
     try simp only [ty] at h3
     refine qy ?_ (hg:=(gff r3));refine rc rfl rfl rfl rfl rfl rfl att (b0m ps) (CoL.refl _) rfl (gff r3) ?_;(iterate 2 refine qy ?_ (hg:=(gff r3)))
     refine rq rfl rfl rfl rfl (gff r3) ?_ (hp:=⟨a4c hz0 hz1,a0c hz0 hz1⟩);refine qy ?_ (hg:=(gff r3));(iterate 2 refine qy ?_);refine a6 ?_;refine ⟨by kernel_rfl, ?_⟩
     refine a8 _ rfl (fun r4=>?_) (fun r4=>?_)
     ·
      have h4:=r4
      have h4:=bg r3 h4
      have h4:=of_decide_eq_false (av h4)
      try simp only [ty] at h4
      refine sx7 ?_;refine qy ?_;refine a6 ?_
      exact hx8 rfl rfl rfl (⟨cci (aai (by omega) (by omega) (by first | exact .inl (by omega) | exact .inr (fun e=>absurd (show asI (orL ps) = IntKind.wrap .u32 (1 * 2 ^ (min n.toNat 32)) - 1 by rw [tu hz0 hz1,e]) (by assumption)))).symm,trivial⟩)
     ·
      have h4:=r4
      have h4:=bg r3 h4
      have h4:=of_decide_eq_true (aw h4)
      try simp only [ty] at h4
      refine aa ?_;refine sx7 ?_;refine qy ?_;refine a6 ?_;refine ap ?_;refine ⟨.inr rfl, ?_⟩
      exact ⟨_,_,_,_,rfl,(by (repeat' apply And.intro) <;> first | trivial | exact Nat.le_of_ble_eq_true rfl | rfl),rfl,(by (repeat' apply And.intro) <;> first | trivial | exact Nat.le_of_ble_eq_true rfl | rfl),⟨cci (air (by omega) (by omega) (fun e=>by
       rcases e with e | e
       · omega
       · exact e (ep.1 ((by assumption:asI (orL ps) = IntKind.wrap .u32 (1 * 2 ^ (min n.toNat 32)) - 1).trans (tu hz0 hz1))))).symm,trivial⟩⟩
theorem aze:goodFn Tryz.prog 98:=⟨Tryz.f98,Tryz.func98,by kernel_rfl,by kernel_rfl⟩
theorem avq (n:Int) (ps:List AS) (p m:List Fd):ai Tryz.prog 98 [pI n,pP (asl ps),pP (fdl p),pP (fdl m)] (ao [pT (lcR n ps p m).1.1 (lcR n ps p m).1.2,pP (stl (lcR n ps p m).2.1),pT (lcR n ps p m).2.2.1.1 (lcR n ps p m).2.2.1.2,pI (lcR n ps p m).2.2.2]):=by
 refine ah (nt:=58) ae Tryz.func98 rfl rfl l9 ?_;refine sx7 ?_;refine m9 0 ?_;refine qy ?_;refine m9 1 ?_;refine qy ?_;refine a6 ?_;refine a7 ?_;refine sx7 ?_;(iterate 2 refine qy ?_)
 refine rc rfl rfl rfl rfl rfl rfl b0p (awe n ps) (CoL.refl _) rfl rfl ?_;refine qy ?_;refine a6 ?_;refine sx7 ?_;(iterate 2 refine qy ?_);refine a6 ?_;refine a8 _ rfl (fun r0=>?_) (fun r0=>?_)
 ·
  have h0:=r0
  have h0:=of_decide_eq_false (av h0)
  try simp only [ty] at h0
  refine sx7 ?_;(iterate 3 refine qy ?_);refine s9 ?_;refine qy ?_;refine s9 ?_;refine qy ?_;refine a6 ?_;refine ap ?_;refine ⟨.inr rfl, ?_⟩
  have he:=b1b (p:=p) (m:=m) (by assumption:¬ lvE n ps = 0)
  exact f9 rfl rfl (by rw [he];exact ⟨CoC.agg ⟨CoP.refl _,bz,trivial⟩,CoC.one (CoP.sl rfl (.inr rfl) (fun _=>rfl) (fun i j hi _=>absurd hi (Nat.not_lt_zero i))),CoC.agg ⟨CoP.refl _,bz,trivial⟩,CoC.refl _,trivial⟩)
 ·
  have h0:=r0
  have h0:=of_decide_eq_true (aw h0)
  try simp only [ty] at h0
  have hv:lvE n ps = 0:=by assumption
  refine aa ?_;refine a7 ?_;refine sx7 ?_;(iterate 3 refine qy ?_);refine rc rfl rfl rfl rfl rfl rfl a6s (a1j n p m) (CoL.refl _) rfl rfl ?_;refine qy ?_;refine a6 ?_;refine sx7 ?_
  (iterate 2 refine qy ?_);refine a6 ?_;refine a8 _ rfl (fun r1=>?_) (fun r1=>?_)
  ·
   have h1:=r1
   have h1:=of_decide_eq_false (av h1)
   try simp only [ty] at h1
   refine sx7 ?_;(iterate 3 refine qy ?_);refine s9 ?_;refine qy ?_;refine s9 ?_;refine qy ?_;refine a6 ?_;refine ap ?_;refine ⟨.inr rfl, ?_⟩
   have he:=b2m hv (by assumption:¬ c8 n p m = 0)
   exact f9 rfl rfl (by rw [he];exact ⟨CoC.agg ⟨CoP.refl _,bz,trivial⟩,CoC.one (CoP.sl rfl (.inr rfl) (fun _=>rfl) (fun i j hi _=>absurd hi (Nat.not_lt_zero i))),CoC.agg ⟨CoP.refl _,bz,trivial⟩,CoC.refl _,trivial⟩)
  ·
   have h1:=r1
   have h1:=of_decide_eq_true (aw h1)
   try simp only [ty] at h1
   have hb:c8 n p m = 0:=by assumption
   refine aa ?_;refine sx7 ?_;(iterate 2 refine qy ?_);refine rc rfl rfl rfl rfl rfl rfl awv (axz n ps hv) (CoL.refl _) rfl rfl ?_;(iterate 3 refine qy ?_);refine m9 2 ?_;refine s9 ?_;refine qy ?_
   refine a6 ?_;refine a7 ?_;refine sx7 ?_;(iterate 2 refine qy ?_);refine a6 ?_;refine a8 _ rfl (fun e=>by cases e) (fun _=>?_);refine aa ?_;refine sx7 ?_;(iterate 3 refine qy ?_)
   refine rc rfl rfl rfl rfl rfl rfl auh (au5 n ps p m) (CoL.refl _) rfl rfl ?_;(iterate 4 refine qy ?_);refine m9 3 ?_;refine qy ?_;refine s9 ?_;refine qy ?_;refine a6 ?_;refine a7 ?_
   refine ax (E:=bf) ae ar [0,1,2,3,4,5,6,7] ?_;(iterate 4 refine qy ?_);refine s9 ?_;refine qy ?_;refine s9 ?_;refine qy ?_;refine a6 ?_;refine ⟨by kernel_rfl, ?_⟩;refine ap ?_
   refine ⟨.inr rfl, ?_⟩
   have he:=at7 hv hb
   exact f9 rfl rfl (by rw [he];exact CoL.refl _)
theorem av6:goodFn Tryz.prog 100:=⟨Tryz.f100,Tryz.func100,by kernel_rfl,by kernel_rfl⟩
theorem auo (n:Int) (h0:0 ≤ n) (h1:n ≤ 16):ai Tryz.prog 100 [pI n] (ao [pZ (ct n)]):=by
 refine ah (nt:=18) ae Tryz.func100 rfl rfl l9 ?_;refine sx7 ?_;refine qy ?_;refine a6 ?_;refine sx7 ?_;refine qy ?_;refine m9 0 ?_;refine qy ?_;refine a6 ?_;refine a7 ?_;refine sx7 ?_
 (iterate 3 refine qy ?_);refine a6 ?_;refine ab ?_
 refine aj (ι:=Nat) ⟨[(3,some _),(8,some _)],[]⟩ ⟨⟨c9,c9,trivial⟩,trivial⟩ (fun k=>⟨[(9,some (vI k))],[(0,some (.arr true 1 3 n.toNat (lf zC (stT n 0 (gq 32) k))))]⟩) (fun k=>k ≤ n.toNat) (fun k=>n.toNat - k) (0) (Nat.zero_le _) ⟨⟨zy,trivial⟩,⟨⟨_,rfl,(ad8 rfl (fun _=>rfl))⟩,trivial⟩⟩ ?_
 rintro k hk
 refine sx7 ?_;refine qy ?_;refine a6 ?_;refine a7 ?_;refine a8 _ rfl (fun r0=>?_) (fun r0=>?_)
 ·
  have h0:=of_decide_eq_true r0
  try simp only [ty] at h0
  refine aa ?_;refine a7 ?_;refine ab ?_;refine sx7 ?_;(iterate 2 refine qy ?_);refine a6 ?_;refine gy ?_;(iterate 4 refine qy ?_);refine s9 ?_;refine a6 ?_;refine gy ?_;(iterate 2 refine qy ?_)
  refine a6 ?_;refine ⟨k + 1, ?_, ?_, ?_⟩
  · show k + 1 ≤ _;omega
  · first | omega | (dsimp only;omega)
  · exact ⟨⟨zy,c9,c9,trivial⟩,⟨⟨_,rfl,(ayp (amk (by omega)) rfl (by omega))⟩,trivial⟩⟩
 ·
  have h0:=of_decide_eq_false r0
  try simp only [ty] at h0
  refine ak ?_;refine a7 ?_;refine bn 3 rfl rfl rfl ?_;refine gy ?_;(iterate 2 refine qy ?_);refine a6 ?_
  exact hx8 rfl rfl rfl (⟨am1 h1 (by omega),trivial⟩)
theorem azi:goodFn Tryz.prog 50:=⟨Tryz.f50,Tryz.func50,by kernel_rfl,by kernel_rfl⟩
theorem b3x (n:Int) (ps:List AS) (p m:List Fd):ai Tryz.prog 50 [pI n,pP (asl ps),pP (fdl p),pP (fdl m)] (ao [pB (lsB n ps p m),pI (lsC n ps p m)]):=by
 refine ah (nt:=33) ae Tryz.func50 rfl rfl l9 ?_;refine sx7 ?_;(iterate 2 refine qy ?_);refine a6 ?_;refine sx7 ?_;(iterate 4 refine qy ?_)
 refine rc rfl rfl rfl rfl rfl rfl aze (avq n ps p m) (CoL.refl _) rfl rfl ?_;(iterate 5 refine qy ?_);refine m9 0 ?_;refine m9 1 ?_;refine s9 ?_;refine qy ?_;refine s9 ?_;refine qy ?_;refine a6 ?_
 refine a7 ?_;refine ax (E:=bf) ae ar [0,1,2,3,4,5,6,7,8,9,10] ?_;(iterate 3 refine qy ?_);refine b4 rfl rfl (fun r0=>?_) (fun r0=>?_)
 ·
  have h0:=of_decide_eq_true r0
  try simp only [ty] at h0
  have hz:=b3e (n:=n) (ps:=ps) (p:=p) (m:=m) rfl h0
  (iterate 2 refine qy ?_ (hg:=(gtt r0)));refine rc rfl rfl rfl rfl rfl rfl av6 (auo n hz.1 (by omega)) (CoL.refl _) rfl (gtt r0) ?_
  refine rc rfl rfl rfl rfl rfl rfl aln (asw (lcR n ps p m).2.2.1.1 (lcR n ps p m).2.2.1.2 (ct n)) (CoL.refl _) rfl (gtt r0) ?_;(iterate 4 refine qy ?_);refine a6 ?_;refine ⟨by kernel_rfl, ?_⟩
  exact hx8 rfl rfl rfl (⟨ccb (by first | exact b0b | exact asb (n:=n) (ps:=ps) (p:=p) (m:=m) (by assumption) | exact (asj (n:=n) (ps:=ps) (p:=p) (m:=m) (by assumption)).symm),cci ue,trivial⟩)
 ·
  have h0:=of_decide_eq_false r0
  try simp only [ty] at h0
  (iterate 4 refine k9 (gft r0) ?_);refine rq rfl rfl rfl rfl rfl ?_ (hp:=r0);(iterate 3 refine qy ?_);refine a6 ?_;refine ⟨by kernel_rfl, ?_⟩
  exact hx8 rfl rfl rfl (⟨ccb (by first | exact b0b | exact asb (n:=n) (ps:=ps) (p:=p) (m:=m) (by assumption) | exact (asj (n:=n) (ps:=ps) (p:=p) (m:=m) (by assumption)).symm),cci ue,trivial⟩)
theorem avn:goodFn Tryz.prog 143:=⟨Tryz.f143,Tryz.func143,by kernel_rfl,by kernel_rfl⟩
theorem aqx (n:Int) (ps:List AS):ai Tryz.prog 143 [pI n,pP (asl ps)] (ao [pI (lvE n ps)]):=by
 refine ah (nt:=37) ae Tryz.func143 rfl rfl l9 ?_;refine sx7 ?_;refine qy ?_;refine a6 ?_;refine a7 ?_;refine sx7 ?_;(iterate 3 refine qy ?_);refine b4 rfl rfl (fun r0=>?_) (fun r0=>?_)
 ·
  have h0:=of_decide_eq_true r0
  try simp only [ty] at h0
  (iterate 2 refine k9 (gtf r0) ?_);refine rq rfl rfl rfl rfl rfl ?_ (hp:=r0);refine a6 ?_;refine a8 _ rfl (fun _=>?_) (fun e=>by cases e);refine sx7 ?_;refine qy ?_;refine a6 ?_
  exact hx8 rfl rfl rfl (⟨cci (aar (by omega)).symm,trivial⟩)
 ·
  have h0:=of_decide_eq_false r0
  try simp only [ty] at h0
  (iterate 2 refine qy ?_ (hg:=(gff r0)));refine qy ?_;refine a6 ?_;refine a8 _ rfl (fun r1=>?_) (fun r1=>?_)
  ·
   have h1:=r1
   have h1:=bg r0 h1
   have h1:=of_decide_eq_true h1
   try simp only [ty] at h1
   refine sx7 ?_;refine qy ?_;refine a6 ?_
   exact hx8 rfl rfl rfl (⟨cci (aar (by omega)).symm,trivial⟩)
  ·
   have h1:=r1
   have h1:=bg r0 h1
   have h1:=of_decide_eq_false h1
   try simp only [ty] at h1
   refine aa ?_;refine a7 ?_;refine sx7 ?_;(iterate 3 refine qy ?_);refine a6 ?_;refine a8 _ rfl (fun r2=>?_) (fun r2=>?_)
   ·
    have h2:=of_decide_eq_true r2
    try simp only [ty] at h2
    refine sx7 ?_;refine qy ?_;refine a6 ?_
    exact hx8 rfl rfl rfl (⟨cci (atm (by omega) (by omega)).symm,trivial⟩)
   ·
    have h2:=of_decide_eq_false r2
    try simp only [ty] at h2
    refine aa ?_;refine sx7 ?_;refine qy ?_;refine a6 ?_;refine a7 ?_;refine sx7 ?_;refine qy ?_;refine a6 ?_;refine ab ?_
    refine aj (ι:=Nat) ⟨[(0,some _),(1,some _)],[]⟩ ⟨⟨c9,c9,trivial⟩,trivial⟩ (fun i=>⟨[(5,some (vA (orL (ps.take i)))),(6,some (vI i))],[]⟩) (fun i=>i ≤ ps.length) (fun i=>ps.length - i) (0) (Nat.zero_le _) ⟨⟨⟨_,rfl,(CoR.refl _)⟩,zy,trivial⟩,trivial⟩ ?_
    rintro i hi
    refine a7 ?_;refine sx7 ?_;(iterate 4 refine qy ?_);refine a6 ?_;refine a8 _ rfl (fun r3=>?_) (fun r3=>?_)
    ·
     have h3:=of_decide_eq_true r3
     try simp only [ty] at h3
     refine aa ?_;refine a7 ?_;refine ab ?_;refine gy ?_;(iterate 7 refine qy ?_);refine a6 ?_;refine gy ?_;(iterate 3 refine qy ?_);refine a6 ?_;refine ⟨i + 1, ?_, ?_, ?_⟩
     · show i + 1 ≤ _;omega
     · first | omega | (dsimp only;omega)
     · exact ⟨⟨⟨_,rfl,(fg (by rw [bOr,zd (by omega)];rfl))⟩,zy,c9,c9,trivial⟩,trivial⟩
    ·
     have h3:=of_decide_eq_false r3
     try simp only [ty] at h3
     obtain rfl:i = ps.length:=by omega
     rw [show ps.take ps.length = ps from List.take_length]
     refine ak ?_;refine a7 ?_;refine sx7 ?_;(iterate 4 refine qy ?_);refine b4 rfl rfl (fun r4=>?_) (fun r4=>?_)
     ·
      have h4:=of_decide_eq_true r4
      try simp only [ty] at h4
      (iterate 4 refine k9 (gtf r4) ?_);refine rq rfl rfl rfl rfl rfl ?_ (hp:=r4);refine a6 ?_;refine a8 _ rfl (fun _=>?_) (fun e=>by cases e);refine sx7 ?_;refine qy ?_;refine a6 ?_
      exact hx8 rfl rfl rfl (⟨cci (aai (by omega) (by omega) (by first | exact .inl (by omega) | exact .inr (fun e=>absurd (show asI (orL ps) = asI (af n) by rw [e]) (by assumption)))).symm,trivial⟩)
     ·
      have h4:=of_decide_eq_false r4
      try simp only [ty] at h4
      (iterate 2 refine qy ?_ (hg:=(gff r4)));refine rc rfl rfl rfl rfl rfl rfl kx (l6 n) (CoL.refl _) rfl (gff r4) ?_;refine qy ?_ (hg:=(gff r4));refine qy ?_;refine a6 ?_
      refine a8 _ rfl (fun r5=>?_) (fun r5=>?_)
      ·
       have h5:=r5
       have h5:=bg r4 h5
       have h5:=of_decide_eq_false (av h5)
       try simp only [ty] at h5
       refine sx7 ?_;refine qy ?_;refine a6 ?_
       exact hx8 rfl rfl rfl (⟨cci (aai (by omega) (by omega) (by first | exact .inl (by omega) | exact .inr (fun e=>absurd (show asI (orL ps) = asI (af n) by rw [e]) (by assumption)))).symm,trivial⟩)
      ·
       have h5:=r5
       have h5:=bg r4 h5
       have h5:=of_decide_eq_true (aw h5)
       try simp only [ty] at h5
       refine aa ?_;refine sx7 ?_;refine qy ?_;refine a6 ?_;refine ap ?_;refine ⟨.inr rfl, ?_⟩
       exact ⟨_,_,_,_,rfl,(by (repeat' apply And.intro) <;> first | trivial | exact Nat.le_of_ble_eq_true rfl | rfl),rfl,(by (repeat' apply And.intro) <;> first | trivial | exact Nat.le_of_ble_eq_true rfl | rfl),⟨cci (air (by omega) (by omega) (fun e=>by
        rcases e with e | e
        · omega
        · exact e (ep.1 (by assumption)))).symm,trivial⟩⟩
theorem azn:goodFn Tryz.prog 95:=⟨Tryz.f95,Tryz.func95,by kernel_rfl,by kernel_rfl⟩
theorem awp (n:Int) (ps:List AS) (p m:List Fd):ai Tryz.prog 95 [pI n,pP (asl ps),pP (fdl p),pP (fdl m)] (ao [pP (stl (rcR n ps p m).1),pP (psl 2 tbC (rcR n ps p m).2.1),pI (rcR n ps p m).2.2]):=by
 refine ah (nt:=77) ae Tryz.func95 rfl rfl l9 ?_;refine sx7 ?_;(iterate 3 refine qy ?_);refine a6 ?_;refine a7 ?_;refine sx7 ?_;(iterate 2 refine qy ?_)
 refine rc rfl rfl rfl rfl rfl rfl avn (aqx n ps) (CoL.refl _) rfl rfl ?_;refine qy ?_;refine a6 ?_;refine sx7 ?_;(iterate 2 refine qy ?_);refine a6 ?_;refine a8 _ rfl (fun r0=>?_) (fun r0=>?_)
 ·
  have h0:=r0
  have h0:=of_decide_eq_false (av h0)
  try simp only [ty] at h0
  refine sx7 ?_;(iterate 4 refine qy ?_);refine a6 ?_;refine ap ?_;refine ⟨.inr rfl, ?_⟩
  have he:=aij (n:=n) (ps:=ps) (p:=p) (m:=m) (b21 (by assumption)).1 (by assumption)
  exact f9 rfl rfl (by rw [he];exact ⟨CoC.one (CoP.sl rfl (.inr rfl) (fun _=>rfl) (fun i j hi _=>absurd hi (Nat.not_lt_zero i))),CoC.one (CoP.sl rfl (.inr rfl) (fun _=>rfl) (fun i j hi _=>absurd hi (Nat.not_lt_zero i))),CoC.refl _,trivial⟩)
 ·
  have h0:=r0
  have h0:=of_decide_eq_true (aw h0)
  try simp only [ty] at h0
  have hv:lvE n ps = 0:=by assumption
  refine aa ?_;refine a7 ?_;refine sx7 ?_;(iterate 3 refine qy ?_);refine rc rfl rfl rfl rfl rfl rfl x8 (uc n p m) (CoL.refl _) rfl rfl ?_;refine qy ?_;refine a6 ?_;refine sx7 ?_
  (iterate 2 refine qy ?_);refine a6 ?_;refine a8 _ rfl (fun r1=>?_) (fun r1=>?_)
  ·
   have h1:=r1
   have h1:=of_decide_eq_false (av h1)
   try simp only [ty] at h1
   refine sx7 ?_;(iterate 4 refine qy ?_);refine a6 ?_;refine ap ?_;refine ⟨.inr rfl, ?_⟩
   have he:=aij (n:=n) (ps:=ps) (p:=p) (m:=m) (b1s hv (by assumption)).1 (by assumption)
   exact f9 rfl rfl (by rw [he];exact ⟨CoC.one (CoP.sl rfl (.inr rfl) (fun _=>rfl) (fun i j hi _=>absurd hi (Nat.not_lt_zero i))),CoC.one (CoP.sl rfl (.inr rfl) (fun _=>rfl) (fun i j hi _=>absurd hi (Nat.not_lt_zero i))),CoC.refl _,trivial⟩)
  ·
   have h1:=r1
   have h1:=of_decide_eq_true (aw h1)
   try simp only [ty] at h1
   have hb:c8 n p m = 0:=by assumption
   refine aa ?_;refine sx7 ?_;(iterate 2 refine qy ?_);refine rc rfl rfl rfl rfl rfl rfl avy (apo n ps hv) (CoL.refl _) rfl rfl ?_;(iterate 3 refine qy ?_);refine m9 0 ?_;refine s9 ?_;refine qy ?_
   refine a6 ?_;refine a7 ?_;refine sx7 ?_;(iterate 2 refine qy ?_);refine a6 ?_;refine a8 _ rfl (fun e=>by cases e) (fun _=>?_);refine aa ?_;refine sx7 ?_;(iterate 3 refine qy ?_)
   refine rc rfl rfl rfl rfl rfl rfl awf (aqw n ps p m) (CoL.refl _) rfl rfl ?_;(iterate 4 refine qy ?_);refine m9 1 ?_;refine qy ?_;refine s9 ?_;refine qy ?_;refine a6 ?_;refine a7 ?_;refine sx7 ?_
   (iterate 2 refine qy ?_);refine a6 ?_;refine a8 _ rfl (fun r2=>?_) (fun r2=>?_)
   ·
    have h2:=r2
    have h2:=of_decide_eq_false (av h2)
    try simp only [ty] at h2
    refine sx7 ?_;(iterate 4 refine qy ?_);refine a6 ?_;refine ap ?_;refine ⟨.inr rfl, ?_⟩
    have he:=aij (n:=n) (ps:=ps) (p:=p) (m:=m) (a65 hv hb) (by assumption)
    exact f9 rfl rfl (by rw [he];exact ⟨CoC.one (CoP.sl rfl (.inr rfl) (fun _=>rfl) (fun i j hi _=>absurd hi (Nat.not_lt_zero i))),CoC.one (CoP.sl rfl (.inr rfl) (fun _=>rfl) (fun i j hi _=>absurd hi (Nat.not_lt_zero i))),CoC.refl _,trivial⟩)
   ·
    have h2:=r2
    have h2:=of_decide_eq_true (aw h2)
    try simp only [ty] at h2
    have hc:(lsT n ps p m).2.2 = 0:=by assumption
    have htr:=ayq hv hb hc
    have hfew:(lsT n ps p m).1.length ≤ 1300000:=ahj (p:=p) (m:=m) hv hb
    have hls:lsC n ps p m = 0:=(a65 hv hb).trans hc
    refine aa ?_;refine sx7 ?_;refine qy ?_;refine m9 2 ?_;refine qy ?_;refine a6 ?_;refine a7 ?_;refine sx7 ?_;refine qy ?_;refine a6 ?_;refine ab ?_
    refine aj (ι:=Nat) ⟨[(2,some _),(3,some _),(13,some _),(15,some _)],[]⟩ ⟨⟨c9,c9,c9,c9,trivial⟩,trivial⟩ (fun i=>⟨[(17,some (.v (.one (.ref 2 ((jl n p m (ay (bj n ps)) (lsT n ps p m).1).take (i + 1)).length)))),(18,some (vI i))],[(0,some (.box [.p (.raw (.int .i64 n)), .p (rl ((trL n p m (ay (bj n ps)) (lsT n ps p m).1).getD i default))])),(2,some (.arr true 2 120 ((jl n p m (ay (bj n ps)) (lsT n ps p m).1).take (i + 1)).length (lf tbC ((jl n p m (ay (bj n ps)) (lsT n ps p m).1).take (i + 1)))))]⟩) (fun i=>i ≤ (lsT n ps p m).1.length) (fun i=>(lsT n ps p m).1.length - i) (0) (Nat.zero_le _) ⟨⟨⟨_,rfl,(a0m (by rw [ae1];rfl))⟩,zy,trivial⟩,⟨⟨_,rfl,(by rw [awn];exact CoO.refl _)⟩,⟨_,rfl,(axo ae1 rfl (CoP.refl _) (CoP.refl _))⟩,trivial⟩⟩ ?_
    rintro i hi
    have hlen:((jl n p m (ay (bj n ps)) (lsT n ps p m).1).take (i + 1)).length ≤ i + 1:=by rw [List.length_take];omega
    refine a7 ?_;refine sx7 ?_;(iterate 4 refine qy ?_);refine a6 ?_;refine a8 _ rfl (fun r3=>?_) (fun r3=>?_)
    ·
     have h3:=of_decide_eq_true r3
     try simp only [ty] at h3
     obtain ⟨hx1,hx2,hx3⟩:=b1m (by omega) (atg htr (i:=i) (by omega))
     refine aa ?_;refine a7 ?_;refine ab ?_;refine a7 ?_;refine ax (E:=bf) ae ar [0,1,2,3,4,5,6,7,8,9,10,11] ?_;(iterate 7 refine qy ?_)
     refine rc rfl rfl rfl rfl rfl rfl ahb (alk n ((trL n p m (ay (bj n ps)) (lsT n ps p m).1).getD i default) p m ((lsT n ps p m).1.getD i default) hx1 hb hx2 hx3) (CoL.refl _) rfl rfl ?_
     (iterate 3 refine qy ?_);refine s9 ?_;refine a6 ?_;refine ⟨by kernel_rfl, ?_⟩;refine gy ?_;(iterate 2 refine qy ?_);refine m9 3 ?_;refine ra 4 true rfl rfl rfl rfl rfl rfl ?_;refine qy ?_;refine a6 ?_
     refine gy ?_;(iterate 3 refine qy ?_);refine a6 ?_;refine ⟨i + 1, ?_, ?_, ?_⟩
     · show i + 1 ≤ _;omega
     · first | omega | (dsimp only;omega)
     · exact ⟨⟨⟨_,rfl,(d7 (a95 (by omega)))⟩,zy,c9,c9,c9,c9,trivial⟩,⟨⟨_,rfl,(by rw [a7f (by omega)];exact CoO.refl _)⟩,⟨_,rfl,(zn (a95 (by omega)) (CoP.refl _) (CoP.refl _))⟩,trivial⟩⟩
    ·
     have h3:=of_decide_eq_false r3
     try simp only [ty] at h3
     obtain rfl:i = (lsT n ps p m).1.length:=by omega
     refine ak ?_;refine a7 ?_;refine bn 17 rfl rfl rfl ?_;refine gy ?_;(iterate 5 refine qy ?_);refine a6 ?_;refine ap ?_;refine ⟨.inr rfl, ?_⟩
     have he:=aao hls
     exact f9 rfl rfl (by rw [he];exact ⟨CoC.refl _,(by rw [List.take_of_length_le (by rw [a42];omega)];exact CoC.refl _),CoC.refl _,trivial⟩)
theorem az3:goodFn Tryz.prog 49:=⟨Tryz.f49,Tryz.func49,by kernel_rfl,by kernel_rfl⟩
theorem avx (n:Int) (ps:List AS) (p m:List Fd):ai Tryz.prog 49 [pI n,pP (asl ps),pP (fdl p),pP (fdl m)] (ao [pP (stl (prS n ps p m)),pI (prC n ps p m)]):=by
 refine ah (nt:=42) ae Tryz.func49 rfl rfl l9 ?_;refine sx7 ?_;(iterate 2 refine qy ?_);refine a6 ?_;refine sx7 ?_;(iterate 4 refine qy ?_)
 refine rc rfl rfl rfl rfl rfl rfl azn (awp n ps p m) (CoL.refl _) rfl rfl ?_;(iterate 7 refine qy ?_);refine a6 ?_;refine a7 ?_;refine sx7 ?_;(iterate 2 refine qy ?_);refine a6 ?_
 refine a8 _ rfl (fun r0=>?_) (fun r0=>?_)
 ·
  have h0:=r0
  have h0:=of_decide_eq_false (av h0)
  try simp only [ty] at h0
  refine sx7 ?_;(iterate 3 refine qy ?_);refine a6 ?_;refine ap ?_;refine ⟨.inr rfl, ?_⟩
  have hn:¬ (rcR n ps p m).2.2 = 0:=by assumption
  have e1:prS n ps p m = []:=if_neg hn
  have e2:prC n ps p m = (rcR n ps p m).2.2:=if_neg hn
  exact f9 rfl rfl (by rw [e1,e2];exact ⟨CoC.one (CoP.sl rfl (.inr rfl) (fun _=>rfl) (fun i j hi _=>absurd hi (Nat.not_lt_zero i))),CoC.refl _,trivial⟩)
 ·
  have h0:=r0
  have h0:=of_decide_eq_true (aw h0)
  try simp only [ty] at h0
  have hc:(rcR n ps p m).2.2 = 0:=by assumption
  obtain ⟨hz0,hz1,hfew0⟩:=b37 hc
  have hfew:(rcR n ps p m).1.length ≤ 1300000:=hfew0
  have hln:=azo hc
  refine aa ?_;refine a7 ?_;refine sx7 ?_;refine qy ?_;refine a6 ?_;refine ab ?_
  refine aj (ι:=Nat) ⟨[(0,some _),(10,some _),(11,some _)],[]⟩ ⟨⟨c9,c9,c9,trivial⟩,trivial⟩ (fun i=>⟨[(13,some (vI i))],[]⟩) (fun i=>i ≤ (rcR n ps p m).2.1.length ∧ (∀ j,j < i → a8t n ((rcR n ps p m).2.1.getD j default).2 = false)) (fun i=>(rcR n ps p m).2.1.length - i) (0) (⟨Nat.zero_le _,fun j hj=>absurd hj (Nat.not_lt_zero j)⟩) ⟨⟨zy,trivial⟩,trivial⟩ ?_
  rintro i ⟨hi,hI⟩
  refine a7 ?_;refine sx7 ?_;(iterate 4 refine qy ?_);refine a6 ?_;refine a8 _ rfl (fun r1=>?_) (fun r1=>?_)
  ·
   have h1:=of_decide_eq_true r1
   try simp only [ty] at h1
   refine aa ?_;refine a7 ?_;refine ab ?_;refine a7 ?_;refine ax (E:=bf) ae ar [0,1,2,3,4,5,6] ?_;(iterate 5 refine qy ?_)
   refine rc rfl rfl rfl rfl rfl rfl b0z (ayd n hz1) (CoL.refl _) rfl rfl ?_
   refine rc rfl rfl rfl rfl rfl rfl abb (ab7 ((rcR n ps p m).2.1.getD i default).1 ((rcR n ps p m).2.1.getD i default).2 (ct n)) (CoL.refl _) rfl rfl ?_;refine a6 ?_;refine ⟨by kernel_rfl, ?_⟩
   refine a8 _ rfl (fun r2=>?_) (fun r2=>?_)
   ·
    have h2:=r2
    have hx:prX n ps p m = (i:Int):=a6p (p:=(fun a:Int × List Rw=>a8t n a.2)) (i:=i) (by omega) hI (by assumption)
    refine sx7 ?_;(iterate 5 refine qy ?_);refine a6 ?_;refine ap ?_;refine ⟨.inr rfl, ?_⟩
    have e1:prS n ps p m = (rcR n ps p m).1.take i:=by
     unfold prS
     rw [if_pos hc,if_neg (by omega),hx]
     rfl
    have e2:prC n ps p m = 0:=by
     unfold prC
     rw [if_pos hc,if_neg (by omega)]
    exact f9 rfl rfl (by rw [e1,e2];exact ⟨CoC.one (apl (by rw [List.length_take];dsimp only [fl,bv];omega) (fun a j=>by first | rfl | (simp;rfl))),CoC.refl _,trivial⟩)
   ·
    have h2:=r2
    refine aa ?_;refine gy ?_;(iterate 3 refine qy ?_);refine a6 ?_;refine ⟨i + 1, ?_, ?_, ?_⟩
    · refine ⟨by omega,fun j hj=>?_⟩
      by_cases e:j = i
      · rw [e];assumption
      · exact hI j (by omega)
    · first | omega | (dsimp only;omega)
    · exact ⟨⟨zy,c9,c9,c9,trivial⟩,trivial⟩
  ·
   have h1:=of_decide_eq_false r1
   try simp only [ty] at h1
   have hx:prX n ps p m < 0:=by
    have:prX n ps p m = -1:=a5k (p:=(fun a:Int × List Rw=>a8t n a.2)) fun j hj=>hI j (by omega)
    omega
   refine ak ?_;refine sx7 ?_;(iterate 2 refine qy ?_);refine a6 ?_;refine ap ?_;refine ⟨.inr rfl, ?_⟩
   have e1:prS n ps p m = []:=by
    unfold prS
    rw [if_pos hc,if_pos hx]
   have e2:prC n ps p m = 11:=by
    unfold prC
    rw [if_pos hc,if_pos hx]
   exact f9 rfl rfl (by rw [e1,e2];exact ⟨CoC.one (CoP.sl rfl (.inr rfl) (fun _=>rfl) (fun i j hi _=>absurd hi (Nat.not_lt_zero i))),CoC.refl _,trivial⟩)
theorem ady:goodFn Tryz.prog 18:=⟨Tryz.f18,Tryz.func18,by kernel_rfl,by kernel_rfl⟩
theorem aps (n:Int) (ps:List AS) (p m:List Fd):ai Tryz.prog 18 [pI n,pP (asl ps),pP (fdl p),pP (fdl m)] (ao [pB (lsB n ps p m),pI (lsC n ps p m)]):=by
 refine ah (nt:=25) ae Tryz.func18 rfl rfl l9 ?_;refine sx7 ?_;(iterate 2 refine qy ?_);refine a6 ?_;refine sx7 ?_;(iterate 4 refine qy ?_)
 refine rc rfl rfl rfl rfl rfl rfl az3 (avx n ps p m) (CoL.refl _) rfl rfl ?_;(iterate 5 refine qy ?_);refine a6 ?_;refine a7 ?_;refine sx7 ?_;(iterate 2 refine qy ?_);refine a6 ?_
 refine a8 _ rfl (fun r0=>?_) (fun r0=>?_)
 ·
  have h0:=of_decide_eq_true r0
  try simp only [ty] at h0
  refine sx7 ?_;(iterate 2 refine qy ?_);refine a6 ?_;refine ap ?_;refine ⟨.inr rfl, ?_⟩
  obtain ⟨e1,e2⟩:=b19 (n:=n) (ps:=ps) (p:=p) (m:=m) (by assumption)
  exact f9 rfl rfl (⟨ccb e1.symm,cci e2.symm,trivial⟩)
 ·
  have h0:=of_decide_eq_false r0
  try simp only [ty] at h0
  refine aa ?_;refine sx7 ?_;(iterate 5 refine qy ?_);refine a6 ?_;refine ap ?_;refine ⟨.inr rfl, ?_⟩
  obtain ⟨e1,e2⟩:=b1a (n:=n) (ps:=ps) (p:=p) (m:=m) (by assumption)
  exact f9 rfl rfl (⟨ccb e1,cci e2,trivial⟩)
end Go.Hx
end
section
namespace Go.Hx
inductive Lf (l:List Fd):AS → AS → Prop
 | leaf {s:AS}:su l s = false → Lf l s s
 | left {s q:AS}:su l s = true → Lf l (spA l s) q → Lf l s q
 | right {s q:AS}:su l s = true → Lf l (spB l s) q → Lf l s q
def aye (l:List Fd):Nat → AS → List AS
 | 0,s=>[s]
 | k + 1,s=>if su l s = true then aye l k (spA l s) ++ aye l k (spB l s) else [s]
end Go.Hx
end
section
namespace Go.Hx
open Go.Proofs
def u8A (b:BitVec 8):AS:=b.setWidth 32
abbrev u8C:BitVec 8 → Nat → PV:=fun b _=>.raw (.int .u8 (b.toNat:Int))
end Go.Hx
end
section
namespace Go.Hx
open Go.Proofs Go.Proofs.YtidophngianjiaaGreatDoor
open Go.RowKit Go.ChangeShapes Go.WideShapes Go.ChangeAt
theorem rd5:Rd Tryz.prog 5 1 u8C:=(b1o Tryz.underlying5).co (fun u=>u.toBitVec) fun a j hj=>CoP.refl _
theorem b1e:Rd Tryz.prog 136 2 Dp.c:=by
 intro H enc w sp held fuel cs x h
 obtain ⟨hl,n,hf⟩:=am6 Tryz.underlying136 h
 obtain ⟨y0,e0⟩:=hf 0 _ rfl
 obtain ⟨y1,e1⟩:=hf 1 _ rfl
 obtain ⟨a0,h0⟩:=aeo rd5 e0
 obtain ⟨a1,h1⟩:=aeo rd5 e1
 refine ⟨hl.trans (by kernel_rfl),(⟨a0,a1⟩:Dp),fun j hj=>?_⟩
 match j,hj with
 | 0,_=>exact h0 0 (by omega)
 | 1,_=>exact h1 0 (by omega)
theorem at8:RdB Tryz.prog 22 1 (aq5 2 Dp.c) fun b l=>l.length ≤ b :=
 (a9k (B:=fun _ _=>True) (fun _ _ _ _ _=>trivial) Tryz.underlying22 (by kernel_rfl) (by omega) b1e.toB).co id (fun b a h=>h.1) fun a j hj=>CoP.refl _
theorem b3j:RdB Tryz.prog 24 2 Dps.c fun b d=>d.l.length ≤ b:=by
 intro H enc w sp held fuel cs x h
 obtain ⟨hl,n,hf⟩:=a5f Tryz.underlying24 h
 obtain ⟨y0,e0⟩:=hf 0 _ rfl
 obtain ⟨y1,e1⟩:=hf 1 _ rfl
 obtain ⟨a0,_,h0⟩:=vr (fun _ _ _ _ _=>trivial) rd5.toB e0
 obtain ⟨a1,hb,h1⟩:=vr (B:=fun b (l:List Dp)=>l.length ≤ b) (fun _ _ _ h k=>Nat.le_trans k h) at8 e1
 refine ⟨hl.trans (by kernel_rfl),(⟨a0,a1⟩:Dps),hb,fun j hj=>?_⟩
 match j,hj with
 | 0,_=>exact h0 0 (by omega)
 | 1,_=>exact h1 0 (by omega)
theorem b3c:RdB Tryz.prog 49 1 (aq5 1 u8C) fun b l=>l.length ≤ b :=
 (a9k (B:=fun _ _=>True) (fun _ _ _ _ _=>trivial) Tryz.underlying49 (by kernel_rfl) (by omega) rd5.toB).co id (fun b a h=>h.1) fun a j hj=>CoP.refl _
theorem b20:Tryz.prog.readableRec 49 = true ∧ 49 < Tryz.prog.types.size:=⟨by kernel_rfl,of_decide_eq_true (by kernel_rfl)⟩
end Go.Hx
end
