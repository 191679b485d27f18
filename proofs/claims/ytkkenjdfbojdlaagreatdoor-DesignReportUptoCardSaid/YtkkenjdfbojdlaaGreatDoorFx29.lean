/- A part of the proof: Ch8 X12 Ch9 X13 Ch10 Ch11 Ch12 Ch13 X15. -/
import Derived.Test.YtkkenjdfbojdlaaGreatDoorFx16
import Derived.Test.YtkkenjdfbojdlaaGreatDoorFx28
set_option linter.all false
set_option maxRecDepth 100000
set_option maxHeartbeats 1000000
namespace Go.Hx
section
def kx (P:Nat → Nat → Nat → Bool) (I L:Nat):Option (Nat × Nat × Nat) :=
 (List.range I).findSome? fun i=>(List.range L).findSome? fun a=>((List.range L).find? fun b=>P i a b).map fun b=>(i,a,b)
theorem abp {α:Type} {f:Nat → Option α}:∀ {n k:Nat} {x:α},k < n → f k = some x → (∀ j,j < k → f j = none) → (List.range n).findSome? f = some x
 | n + 1,k,x,hk,h,hb=>by
  rw [List.range_succ,List.findSome?_append]
  by_cases e:k < n
  · rw [abp e h hb];rfl
  obtain rfl:k = n:=by omega
  have:(List.range k).findSome? f = none:=by
   rw [List.findSome?_eq_none_iff]
   intro j hj
   exact hb j (List.mem_range.1 hj)
  rw [this]
  simp [h]
theorem aae {α:Type} {f:Nat → Option α} {n:Nat} (h:∀ j,j < n → f j = none):(List.range n).findSome? f = none:=by
 rw [List.findSome?_eq_none_iff]
 intro j hj
 exact h j (List.mem_range.1 hj)
theorem a4c {p:Nat → Bool} {n:Nat} (h:∀ j,j < n → p j = false):(List.range n).find? p = none:=by
 rw [List.find?_eq_none]
 intro j hj
 rw [h j (List.mem_range.1 hj)]
 decide
theorem b0i {p:Nat → Bool} {n k:Nat} (hk:k < n) (h:p k = true) (hb:∀ j,j < k → p j = false):(List.range n).find? p = some k:=by
 induction n with
 | zero=>omega
 | succ n ih =>
  rw [List.range_succ,List.find?_append]
  by_cases e:k < n
  · rw [ih e];rfl
  obtain rfl:k = n:=by omega
  rw [a4c hb]
  simp [h]
theorem a68 {P:Nat → Nat → Nat → Bool} {I L i a b:Nat} (hi:i < I) (ha:a < L) (hb:b < L) (h:P i a b = true) (h1:∀ i',i' < i → ∀ a',a' < L → ∀ b',b' < L → P i' a' b' = false) (h2:∀ a',a' < a → ∀ b',b' < L → P i a' b' = false) (h3:∀ b',b' < b → P i a b' = false) :
 kx P I L = some (i,a,b):=by
 refine abp hi ?_ fun j hj=>aae fun a' ha'=>by rw [a4c fun b' hb'=>h1 j hj a' ha' b' hb'];rfl
 refine abp ha ?_ fun a' ha'=>by rw [a4c fun b' hb'=>h2 a' ha' b' hb'];rfl
 rw [b0i hb h h3]
 rfl
theorem a5z {P:Nat → Nat → Nat → Bool} {I L:Nat} (h:∀ i',i' < I → ∀ a',a' < L → ∀ b',b' < L → P i' a' b' = false):kx P I L = none :=
 aae fun i hi=>aae fun a ha=>by rw [a4c fun b hb=>h i hi a ha b hb];rfl
def gt (l:List Rw) (x:Fd) (a b:Nat):Bool:=ld (l.getD a default) (l.getD b default) x.lhs && !ld (l.getD a default) (l.getD b default) x.rhs
def gr (l:List Rw) (x:Fd) (a b:Nat):Bool:=ld (l.getD a default) (l.getD b default) x.lhs && !(l.any fun r=>decide (r = fw (l.getD a default) (l.getD b default) (x.lhs ||| x.rhs)))
section
variable {l:List Rw} {x:Fd} {a b:Nat}
theorem b0b (h:ld (l.getD a default) (l.getD b default) x.lhs = true) (h2:ld (l.getD a default) (l.getD b default) x.rhs = false):gt l x a b = true:=by unfold gt;rw [h,h2];rfl
theorem afa (h:ld (l.getD a default) (l.getD b default) x.lhs = false):gt l x a b = false:=by unfold gt;rw [h];rfl
theorem a6w (h:ld (l.getD a default) (l.getD b default) x.rhs = true):gt l x a b = false:=by unfold gt;rw [h];simp
theorem ayc (h:ld (l.getD a default) (l.getD b default) x.lhs = true) (h2:(l.any fun r=>decide (r = fw (l.getD a default) (l.getD b default) (x.lhs ||| x.rhs))) = false):gr l x a b = true:=by unfold gr;rw [h,h2];rfl
theorem ahr (h:ld (l.getD a default) (l.getD b default) x.lhs = false):gr l x a b = false:=by unfold gr;rw [h];rfl
theorem a6h (h:(l.any fun r=>decide (r = fw (l.getD a default) (l.getD b default) (x.lhs ||| x.rhs))) = true):gr l x a b = false:=by unfold gr;rw [h];simp
end
abbrev St:=Bool × Nat × Nat × Nat
abbrev St.pc (s:St):PC:=.agg [.raw (.bool s.1), .raw (.int .i64 (s.2.1:Int)), .raw (.int .i64 (s.2.2.1:Int)), .raw (.int .i64 (s.2.2.2:Int))]
def fj (l:List Rw) (p m:List Fd):Option St :=
 match kx (fun i a b=>gt l (p.getD i default) a b) p.length l.length with
 | some x=>some (false,x)
 | none=>(kx (fun i a b=>gr l (m.getD i default) a b) m.length l.length).map fun x=>(true,x)
theorem b2o {l:List Rw} {p m:List Fd} {x:Nat × Nat × Nat} (h:kx (fun i a b=>gt l (p.getD i default) a b) p.length l.length = some x):fj l p m = some (false,x):=by unfold fj;rw [h]
theorem azg {l:List Rw} {p m:List Fd} {x:Nat × Nat × Nat} (h0:kx (fun i a b=>gt l (p.getD i default) a b) p.length l.length = none) (h:kx (fun i a b=>gr l (m.getD i default) a b) m.length l.length = some x):fj l p m = some (true,x):=by unfold fj;rw [h0,h];rfl
theorem b3i {l:List Rw} {p m:List Fd} (h0:kx (fun i a b=>gt l (p.getD i default) a b) p.length l.length = none) (h:kx (fun i a b=>gr l (m.getD i default) a b) m.length l.length = none):fj l p m = none:=by unfold fj;rw [h0,h];rfl
end
section
open Go.Proofs
theorem ayl:goodFn Tryz.prog 201:=wgx Tryz.func201
theorem b48 (n:Int) (l:List Rw) (p m:List Fd) (hT:tok n l = true):af Tryz.prog 201 [pT n l,pP (fdl p),pP (fdl m)] (aj [St.pc ((fj l p m).getD (false,0,0,0)),pB (fj l p m).isSome]):=by
 refine a8 (nt:=132) a7 Tryz.func201 rfl rfl l9 ?_;refine d8 ?_
 obtain ⟨hn0,hn16,hl256,hrow⟩:=n7 hT
 refine dg 1 rfl fun hn1=>?_
 refine dg 2 rfl fun hn2=>?_
 refine gy ?_;refine m9 0 ?_;refine m9 1 ?_;refine dl ?_
 refine ah (ι:=Nat) ⟨[(2,some _),(3,some _),(6,some _),(16,some _),(17,some _)],[(0,some _),(1,some _)]⟩ ⟨⟨c9,c9,c9,c9,c9,trivial⟩,⟨u9,u9,trivial⟩⟩ (fun i=>⟨[(18,some (vI i))],[]⟩) (fun i=>i ≤ p.length ∧ (∀ i',i' < i → ∀ a',a' < l.length → ∀ b',b' < l.length → gt l (p.getD i' default) a' b' = false)) (fun i=>p.length - i) (0) (⟨Nat.zero_le _,cr⟩) ⟨⟨zy,trivial⟩,trivial⟩ ?_
 rintro i ⟨hi,hI⟩
 refine w_5 ?_;refine a6 _ rfl (fun r0=>?_) (fun r0=>?_)
 ·
  have h0:=ae r0
  try simp only [ty] at h0
  refine w_8 ?_;refine m9 2 ?_;refine f8 ?_
  refine ah (ι:=Nat) ⟨[(2,some _),(3,some _),(6,some _),(8,some _),(9,some _),(16,some _),(17,some _),(18,some _),(25,some _)],[(0,some _),(1,some _),(2,some _)]⟩ ⟨⟨c9,c9,c9,c9,c9,c9,c9,c9,c9,trivial⟩,⟨u9,u9,u9,trivial⟩⟩ (fun a=>⟨[(26,some (vI a))],[]⟩) (fun a=>a ≤ l.length ∧ (∀ a',a' < a → ∀ b',b' < l.length → gt l (p.getD i default) a' b' = false)) (fun a=>l.length - a) (0) (⟨Nat.zero_le _,cr⟩) ⟨⟨zy,trivial⟩,trivial⟩ ?_
  rintro a ⟨ha,hA⟩
  refine w_5 ?_;refine a6 _ rfl (fun r1=>?_) (fun r1=>?_)
  ·
   have h1:=ae r1
   try simp only [ty] at h1
   refine a6o ?_
   refine ah (ι:=Nat) ⟨[(2,some _),(3,some _),(6,some _),(8,some _),(9,some _),(10,some _),(16,some _),(17,some _),(18,some _),(25,some _),(26,some _),(31,some _)],[(0,some _),(1,some _),(2,some _)]⟩ ⟨⟨c9,c9,c9,c9,c9,c9,c9,c9,c9,c9,c9,c9,trivial⟩,⟨u9,u9,u9,trivial⟩⟩ (fun b=>⟨[(32,some (vI b))],[]⟩) (fun b=>b ≤ l.length ∧ (∀ b',b' < b → gt l (p.getD i default) a b' = false)) (fun b=>l.length - b) (0) (⟨Nat.zero_le _,cr⟩) ⟨⟨zy,trivial⟩,trivial⟩ ?_
   rintro b ⟨hb,hB⟩
   refine w_5 ?_;refine a6 _ rfl (fun r2=>?_) (fun r2=>?_)
   ·
    have h2:=ae r2
    try simp only [ty] at h2
    refine w_9 ?_;refine bg (E:=bj) a7 aw [0,1,2,3,4,5,6,7,8,9,10,11,12,13,14,15,16,17,18,19,20,21,22,23,24,25,26,27,28] ?_;refine fc ?_
    refine qcx zz (a2y (l.getD a default) (l.getD b default) (p.getD i default).lhs (by rw [hrow _ (by omega),hrow _ (by omega)]) (by rw [hrow _ (by omega)];omega)) ?_;refine qy ?_
    refine b9 rfl rfl (fun r3=>?_) (fun r3=>?_)
    ·
     have h3:=r3
     (iterate 12 refine qy ?_ (hg:=(gtt r3)))
     refine qcx zz (a2y (l.getD a default) (l.getD b default) (p.getD i default).rhs (by rw [hrow _ (by omega),hrow _ (by omega)]) (by rw [hrow _ (by omega)];omega)) ?_ (hg:=(gtt r3));refine qy ?_ (hg:=(gtt r3))
     refine w_2 ?_;refine ⟨by kernel_rfl, ?_⟩;refine a6 _ rfl (fun r4=>?_) (fun r4=>?_)
     ·
      have h4:=r4
      have h4:=du r3 h4
      have h4:=au h4
      refine dl ?_;refine ⟨.inr rfl, ?_⟩
      have he:=b2o (m:=m) (a68 (P:=fun i a b=>gt l (p.getD i default) a b) (i:=i) (a:=a) (b:=b) (by omega) (by omega) (by omega) (b0b (by assumption) (by assumption)) hI hA hB)
      exact f9 rfl rfl (by rw [he];exact CoL.refl _)
     have h4:=r4
     have h4:=du r3 h4
     have h4:=ar h4
     refine w_5 ?_;refine ⟨b + 1, ?_, ?_, ?_⟩
     · exact ⟨by show b + 1 ≤ _;omega,bz hB (by first | exact afa (by assumption) | exact a6w (by assumption))⟩
     · first | omega | (dsimp only;omega)
     exact ⟨⟨zy,c9,c9,c9,c9,c9,c9,c9,c9,c9,c9,c9,c9,trivial⟩,⟨u9,u9,u9,trivial⟩⟩
    have h3:=r3
    (iterate 14 refine k9 (gft r3) ?_);refine rq rfl rfl rfl rfl rfl ?_ (hp:=r3);refine ax ?_;refine ⟨by kernel_rfl, ?_⟩;refine a6 _ rfl (fun e=>by cases e) (fun _=>?_);refine w_5 ?_
    refine ⟨b + 1, ?_, ?_, ?_⟩
    · exact ⟨by show b + 1 ≤ _;omega,bz hB (by first | exact afa (by assumption) | exact a6w (by assumption))⟩
    · first | omega | (dsimp only;omega)
    exact ⟨⟨zy,c9,c9,c9,c9,c9,c9,c9,c9,c9,c9,c9,c9,trivial⟩,⟨u9,u9,u9,trivial⟩⟩
   have h2:=aa r2
   try simp only [ty] at h2
   refine w_5 ?_;refine ⟨a + 1, ?_, ?_, ?_⟩
   · exact ⟨by show a + 1 ≤ _;omega,bz hA (fun b' hb'=>hB b' (by omega))⟩
   · first | omega | (dsimp only;omega)
   exact ⟨⟨zy,c9,c9,c9,c9,c9,c9,c9,c9,c9,trivial⟩,⟨u9,u9,u9,trivial⟩⟩
  have h1:=aa r1
  try simp only [ty] at h1
  refine w_5 ?_;refine ⟨i + 1, ?_, ?_, ?_⟩
  · exact ⟨by show i + 1 ≤ _;omega,bz hI (fun a' ha'=>hA a' (by omega))⟩
  · first | omega | (dsimp only;omega)
  exact ⟨⟨zy,c9,c9,c9,c9,c9,trivial⟩,⟨u9,u9,trivial⟩⟩
 have h0:=aa r0
 try simp only [ty] at h0
 obtain rfl:i = p.length:=by omega
 have hno:=a5z (P:=fun i a b=>gt l (p.getD i default) a b) (I:=p.length) (L:=l.length) hI
 refine w_9 ?_
 refine ah (ι:=Nat) ⟨[(3,some _),(6,some _),(71,some _),(72,some _)],[(0,some _),(1,some _)]⟩ ⟨⟨c9,c9,c9,c9,trivial⟩,⟨u9,u9,trivial⟩⟩ (fun k=>⟨[(73,some (vI k))],[]⟩) (fun k=>k ≤ m.length ∧ (∀ i',i' < k → ∀ a',a' < l.length → ∀ b',b' < l.length → gr l (m.getD i' default) a' b' = false)) (fun k=>m.length - k) (0) (⟨Nat.zero_le _,cr⟩) ⟨⟨zy,trivial⟩,trivial⟩ ?_
 rintro k ⟨hk,hK⟩
 refine w_5 ?_;refine a6 _ rfl (fun r5=>?_) (fun r5=>?_)
 ·
  have h5:=ae r5
  try simp only [ty] at h5
  refine w_8 ?_;refine m9 3 ?_;refine f8 ?_
  refine ah (ι:=Nat) ⟨[(3,some _),(6,some _),(12,some _),(13,some _),(71,some _),(72,some _),(73,some _),(80,some _)],[(0,some _),(1,some _),(3,some _)]⟩ ⟨⟨c9,c9,c9,c9,c9,c9,c9,c9,trivial⟩,⟨u9,u9,u9,trivial⟩⟩ (fun c=>⟨[(81,some (vI c))],[]⟩) (fun c=>c ≤ l.length ∧ (∀ a',a' < c → ∀ b',b' < l.length → gr l (m.getD k default) a' b' = false)) (fun c=>l.length - c) (0) (⟨Nat.zero_le _,cr⟩) ⟨⟨zy,trivial⟩,trivial⟩ ?_
  rintro c ⟨hc,hC⟩
  refine w_5 ?_;refine a6 _ rfl (fun r6=>?_) (fun r6=>?_)
  ·
   have h6:=ae r6
   try simp only [ty] at h6
   refine a6o ?_
   refine ah (ι:=Nat) ⟨[(3,some _),(6,some _),(12,some _),(13,some _),(14,some _),(71,some _),(72,some _),(73,some _),(80,some _),(81,some _),(86,some _)],[(0,some _),(1,some _),(3,some _)]⟩ ⟨⟨c9,c9,c9,c9,c9,c9,c9,c9,c9,c9,c9,trivial⟩,⟨u9,u9,u9,trivial⟩⟩ (fun d=>⟨[(87,some (vI d))],[]⟩) (fun d=>d ≤ l.length ∧ (∀ b',b' < d → gr l (m.getD k default) c b' = false)) (fun d=>l.length - d) (0) (⟨Nat.zero_le _,cr⟩) ⟨⟨zy,trivial⟩,trivial⟩ ?_
   rintro d ⟨hd,hD⟩
   refine w_5 ?_;refine a6 _ rfl (fun r7=>?_) (fun r7=>?_)
   ·
    have h7:=ae r7
    try simp only [ty] at h7
    refine w_9 ?_;refine bg (E:=bj) a7 aw [0,1,2,3,4,5,6,7,8,9,10,11,12,13,14,15,16,17,18,19,20,21,22,23,24,25,26,27,28,29,30,31,32,33] ?_;refine fc ?_
    refine qcx zz (a2y (l.getD c default) (l.getD d default) (m.getD k default).lhs (by rw [hrow _ (by omega),hrow _ (by omega)]) (by rw [hrow _ (by omega)];omega)) ?_;refine qy ?_
    refine b9 rfl rfl (fun r8=>?_) (fun r8=>?_)
    ·
     have h8:=r8
     (iterate 16 refine qy ?_ (hg:=(gtt r8)))
     refine rc rfl rfl rfl rfl rfl rfl ajn (as8 (l.getD c default) (l.getD d default) ((m.getD k default).lhs ||| (m.getD k default).rhs) (by rw [hrow _ (by omega),hrow _ (by omega)]) (by rw [hrow _ (by omega)];omega)) (⟨CoC.refl _,CoC.refl _,cci (by rw [bOr];rfl),trivial⟩) rfl (gtt r8) ?_
     refine qcx aau (alr n l (fw (l.getD c default) (l.getD d default) ((m.getD k default).lhs ||| (m.getD k default).rhs))) ?_ (hg:=(gtt r8));refine qy ?_ (hg:=(gtt r8));refine w_2 ?_;refine ⟨by kernel_rfl, ?_⟩
     refine a6 _ rfl (fun r9=>?_) (fun r9=>?_)
     ·
      have h9:=r9
      have h9:=du r8 h9
      have h9:=au h9
      refine dl ?_;refine ⟨.inr rfl, ?_⟩
      have he:=azg hno (a68 (P:=fun i a b=>gr l (m.getD i default) a b) (i:=k) (a:=c) (b:=d) (by omega) (by omega) (by omega) (ayc (by assumption) (by assumption)) hK hC hD)
      exact f9 rfl rfl (by rw [he];exact CoL.refl _)
     have h9:=r9
     have h9:=du r8 h9
     have h9:=ar h9
     refine w_5 ?_;refine ⟨d + 1, ?_, ?_, ?_⟩
     · exact ⟨by show d + 1 ≤ _;omega,bz hD (by first | exact ahr (by assumption) | exact a6h (by assumption))⟩
     · first | omega | (dsimp only;omega)
     exact ⟨⟨zy,c9,c9,c9,c9,c9,c9,c9,c9,c9,c9,c9,trivial⟩,⟨u9,u9,u9,trivial⟩⟩
    have h8:=r8
    (iterate 19 refine k9 (gft r8) ?_);refine rq rfl rfl rfl rfl rfl ?_ (hp:=r8);refine ax ?_;refine ⟨by kernel_rfl, ?_⟩;refine a6 _ rfl (fun e=>by cases e) (fun _=>?_);refine w_5 ?_
    refine ⟨d + 1, ?_, ?_, ?_⟩
    · exact ⟨by show d + 1 ≤ _;omega,bz hD (by first | exact ahr (by assumption) | exact a6h (by assumption))⟩
    · first | omega | (dsimp only;omega)
    exact ⟨⟨zy,c9,c9,c9,c9,c9,c9,c9,c9,c9,c9,c9,trivial⟩,⟨u9,u9,u9,trivial⟩⟩
   have h7:=aa r7
   try simp only [ty] at h7
   refine w_5 ?_;refine ⟨c + 1, ?_, ?_, ?_⟩
   · exact ⟨by show c + 1 ≤ _;omega,bz hC (fun b' hb'=>hD b' (by omega))⟩
   · first | omega | (dsimp only;omega)
   exact ⟨⟨zy,c9,c9,c9,c9,c9,c9,c9,c9,trivial⟩,⟨u9,u9,u9,trivial⟩⟩
  have h6:=aa r6
  try simp only [ty] at h6
  refine w_5 ?_;refine ⟨k + 1, ?_, ?_, ?_⟩
  · exact ⟨by show k + 1 ≤ _;omega,bz hK (fun a' ha'=>hC a' (by omega))⟩
  · first | omega | (dsimp only;omega)
  exact ⟨⟨zy,c9,c9,c9,c9,trivial⟩,⟨u9,u9,trivial⟩⟩
 have h5:=aa r5
 try simp only [ty] at h5
 refine w_8 ?_;refine ⟨.inr rfl, ?_⟩
 have he:=b3i hno (a5z (P:=fun i a b=>gr l (m.getD i default) a b) (I:=m.length) (L:=l.length) fun j hj=>hK j (by omega))
 exact f9 rfl rfl (by rw [he];exact CoL.refl _)
end
section
def stV (n:Int) (i:Nat) (p:AS) (c:Nat):Int:=if dx p (c:Int) = true then (c:Int) else n + (i:Int) * n + (c:Int)
def stT (n:Int) (i:Nat) (p:AS) (k:Nat):Rw:=(List.range n.toNat).map fun c=>if c < k then stV n i p c else 0
def stR (n:Int) (i:Nat) (p:AS):Rw:=(List.range n.toNat).map fun c=>stV n i p c
def cj (n:Int) (ps:List AS):List Rw:=(List.range ps.length).map fun i=>stR n i (ps.getD i default)
theorem aiy (n:Int) (i:Nat) (p:AS):(stR n i p).length = n.toNat:=by unfold stR;simp
theorem uv (n:Int) (ps:List AS):(cj n ps).length = ps.length:=by unfold cj;simp
theorem arn {n:Int} {ps:List AS} {i:Nat} (h:i < ps.length):(cj n ps).getD i default = stR n i (ps.getD i default):=by
 unfold cj
 rw [List.getD_eq_getElem?_getD,List.getElem?_map,List.getElem?_range h]
 rfl
theorem ajw (n:Int) (i:Nat) (p:AS) {k:Nat} (h:n.toNat ≤ k):stT n i p k = stR n i p:=by
 unfold stT stR
 refine List.map_congr_left fun c hc=>?_
 have:=List.mem_range.1 hc
 rw [if_pos (by omega)]
theorem aey {n:Int} {i:Nat} {p:AS} {k c:Nat} (h:c < n.toNat):(stT n i p k).getD c default = if c < k then stV n i p c else 0:=by
 unfold stT
 rw [List.getD_eq_getElem?_getD,List.getElem?_map,List.getElem?_range h]
 rfl
theorem aff {n:Int} {i:Nat} {p:AS} {N:Nat} {f:Nat → Nat → PV} (hN:N = n.toNat) (hf:∀ a,f a 0 = .raw (.int .i64 0)):CoO (.arr true 1 3 N f) (.arr true 1 3 N (lf zC (stT n i p 0))) :=
 ⟨fun h=>h,rfl,rfl,rfl,fun a j ha hj=>by
  obtain rfl:j = 0:=by omega
  refine CoP.of_eq ?_
  rw [hf]
  show _ = PV.raw (.int .i64 ((stT n i p 0).getD a default))
  rw [aey (by omega),if_neg (by omega)]⟩
theorem a6q {n:Int} {i:Nat} {p:AS} {k:Nat}:∀ c,c < n.toNat → (stT n i p (k + 1)).getD c default = if c = k then stV n i p k else (stT n i p k).getD c default:=fun c hc=>by
 rw [aey hc,aey hc]
 by_cases h:c = k
 · rw [if_pos h,if_pos (by omega),h]
 rw [if_neg h]
 by_cases h2:c < k
 · rw [if_pos h2,if_pos (by omega)]
 rw [if_neg h2,if_neg (by omega)]
theorem aqz {n:Int} {i:Nat} {p:AS} {k a b N:Nat} {x:Int} (h:dx p (k:Int) = true) (hN:N = n.toNat) (ha:a = k) (hb:b = k) :
 CoO (.arr true 1 3 N (eu (eu (lf zC (stT n i p k)) a 0 [.raw (.int .i64 x)]) b 0 [.raw (.int .i64 (k:Int))])) (.arr true 1 3 N (lf zC (stT n i p (k + 1)))):=by
 subst ha hb
 refine ⟨fun h=>h,rfl,rfl,rfl,fun c j hc hj=>CoP.of_eq ?_⟩
 obtain rfl:j = 0:=by omega
 show _ = PV.raw (.int .i64 ((stT n i p (b + 1)).getD c default))
 rw [a6q c (by omega)]
 unfold eu
 by_cases e:c = b
 · rw [if_pos ⟨e,by omega,by simp⟩,if_pos e]
   unfold stV
   rw [if_pos h]
   rfl
 rw [if_neg (fun x=>e x.1),if_neg (fun x=>e x.1),if_neg e]
 rfl
theorem ant {n:Int} {i:Nat} {p:AS} {k a N:Nat} (h:¬ dx p (k:Int) = true) (hN:N = n.toNat) (ha:a = k) :
 CoO (.arr true 1 3 N (eu (lf zC (stT n i p k)) a 0 [.raw (.int .i64 (n + (i:Int) * n + (k:Int)))])) (.arr true 1 3 N (lf zC (stT n i p (k + 1)))):=by
 subst ha
 refine ⟨fun h=>h,rfl,rfl,rfl,fun c j hc hj=>CoP.of_eq ?_⟩
 obtain rfl:j = 0:=by omega
 show _ = PV.raw (.int .i64 ((stT n i p (a + 1)).getD c default))
 rw [a6q c (by omega)]
 unfold eu
 by_cases e:c = a
 · rw [if_pos ⟨e,by omega,by simp⟩,if_pos e]
   unfold stV
   rw [if_neg h]
   rfl
 rw [if_neg (fun x=>e x.1),if_neg e]
 rfl
theorem axp {s:AS} {n:Int}:(asI s).fdiv (2 ^ (min n.toNat 32)) = 0 ↔ s >>> n.toNat = 0:=by
 rw [uk,show (0:Int) = asI 0 from rfl,c8]
theorem bcg {n:Int} {i:Nat} (h0:0 ≤ n) (h1:n ≤ 16) (hi:i ≤ 64):0 ≤ (i:Int) * n ∧ (i:Int) * n ≤ 1024:=by
 refine ⟨Int.mul_nonneg (by omega) h0, ?_⟩
 have h2:(i:Int) * n ≤ (i:Int) * 16:=Int.mul_le_mul_of_nonneg_left h1 (by omega)
 omega
def i9 (n:Int) (ps:List AS):Int × List Rw × Int :=
 if n < 0 ∨ 16 < n then (0,[],7) else if 64 < ps.length then (0,[],3) else if ps.all (fun p=>decide (p >>> n.toNat = 0)) = true then (n,c5 (cj n ps),0) else (0,[],1)
theorem agf {n:Int} {ps:List AS} (h:n < 0 ∨ 16 < n):i9 n ps = (0,[],7):=if_pos h
theorem awy {n:Int} {ps:List AS} (h:¬ (n < 0 ∨ 16 < n)) (h2:64 < ps.length):i9 n ps = (0,[],3):=by unfold i9;rw [if_neg h,if_pos h2]
theorem aul {n:Int} {ps:List AS} {i:Nat} (h:¬ (n < 0 ∨ 16 < n)) (h2:¬ 64 < ps.length) (hi:i < ps.length) (h3:¬ (ps.getD i default) >>> n.toNat = 0):i9 n ps = (0,[],1):=by
 unfold i9
 rw [if_neg h,if_neg h2,if_neg (fun e=>absurd (a88 (l:=ps) (p:=fun p:AS=>decide (p >>> n.toNat = 0)) hi (decide_eq_false h3)) (by rw [e];decide))]
theorem aew {n:Int} {ps:List AS} (h:¬ (n < 0 ∨ 16 < n)) (h2:¬ 64 < ps.length) (h3:∀ j,j < ps.length → (ps.getD j default) >>> n.toNat = 0):i9 n ps = (n,c5 (cj n ps),0):=by
 unfold i9
 rw [if_neg h,if_neg h2,if_pos (ado (l:=ps) (p:=fun p:AS=>decide (p >>> n.toNat = 0)) fun j hj=>decide_eq_true (h3 j hj))]
theorem atm {n:Int} {ps:List AS} {i k:Nat} (hi:i < ps.length) (hk:n.toNat ≤ k):CoP (.sl n.toNat 1 false (lf zC (stT n i (ps.getD i default) k))) (lf rC (cj n ps) i 0):=by
 show CoP _ (zl ((cj n ps).getD i default))
 rw [arn hi,ajw n i _ hk]
 exact CoP.sl (aiy _ _ _) (.inl rfl) (fun h=>h) fun a j ha hj=>CoP.refl _
end
section
open Go.Proofs
theorem azm:goodFn Tryz.prog 128:=wgx Tryz.func128
theorem b6f (n:Int) (ps:List AS):af Tryz.prog 128 [pI n,pP (asl ps)] (aj [pT (i9 n ps).1 (i9 n ps).2.1,pI (i9 n ps).2.2]):=by
 refine a8 (nt:=73) a7 Tryz.func128 rfl rfl l9 ?_;refine sx7 ?_;refine m9 0 ?_;refine w_9 ?_;refine b9 rfl rfl (fun r0=>?_) (fun r0=>?_)
 ·
  have h0:=ae r0
  try simp only [ty] at h0
  (iterate 2 refine k9 (gtf r0) ?_);refine rq rfl rfl rfl rfl rfl ?_ (hp:=r0);refine w_2 ?_;refine a6 _ rfl (fun _=>?_) (fun e=>by cases e);refine w_7 ?_;refine ⟨.inr rfl, ?_⟩
  have he:=agf (n:=n) (ps:=ps) (by omega)
  exact f9 rfl rfl (by rw [he];exact ⟨CoC.agg ⟨CoP.refl _,dv,trivial⟩,CoC.refl _,trivial⟩)
 have h0:=aa r0
 try simp only [ty] at h0
 (iterate 2 refine qy ?_ (hg:=(gff r0)));refine w_3 ?_;refine a6 _ rfl (fun r1=>?_) (fun r1=>?_)
 ·
  have h1:=r1
  have h1:=c6 r0 h1
  have h1:=ae h1
  try simp only [ty] at h1
  refine w_7 ?_;refine ⟨.inr rfl, ?_⟩
  have he:=agf (n:=n) (ps:=ps) (by omega)
  exact f9 rfl rfl (by rw [he];exact ⟨CoC.agg ⟨CoP.refl _,dv,trivial⟩,CoC.refl _,trivial⟩)
 have h1:=r1
 have h1:=c6 r0 h1
 have h1:=aa h1
 try simp only [ty] at h1
 refine w_7 ?_;refine a6 _ rfl (fun r2=>?_) (fun r2=>?_)
 ·
  have h2:=ae r2
  try simp only [ty] at h2
  refine w_7 ?_;refine ⟨.inr rfl, ?_⟩
  have he:=awy (n:=n) (ps:=ps) (by omega) (by omega)
  exact f9 rfl rfl (by rw [he];exact ⟨CoC.agg ⟨CoP.refl _,dv,trivial⟩,CoC.refl _,trivial⟩)
 have h2:=aa r2
 try simp only [ty] at h2
 refine w_5 ?_;refine m9 1 ?_;refine w_2 ?_
 refine a1v 1 1 900 true 1 84 (lf rC (cj n ps)) (by decide) rfl rfl (CoP.sl rfl (.inr rfl) (fun h=>h) (fun i j hi _=>absurd hi (Nat.not_lt_zero i))) (.inr rfl) rfl rfl ?_;refine w_8 ?_
 refine ah (ι:=Nat) ⟨[(0,some _),(4,some _),(6,some _),(26,some _),(27,some _)],[(0,some _)]⟩ ⟨⟨c9,c9,c9,c9,c9,trivial⟩,⟨u9,trivial⟩⟩ (fun i=>⟨[(28,some (vI i))],[(1,some (.box [.p (.raw (.int .i64 n)), .ref 900 i])),(900,some (.arr true 1 84 i (lf rC (cj n ps))))]⟩) (fun i=>i ≤ ps.length ∧ ∀ j,j < i → (ps.getD j default) >>> n.toNat = 0) (fun i=>ps.length - i) (0) (⟨Nat.zero_le _,cr⟩) ⟨⟨zy,trivial⟩,⟨u9,u9,trivial⟩⟩ ?_
 rintro i ⟨hi,hI⟩
 refine w_5 ?_;refine a6 _ rfl (fun r3=>?_) (fun r3=>?_)
 ·
  have h3:=ae r3
  try simp only [ty] at h3
  have hin:=bcg (n:=n) (i:=i) (by omega) (by omega) (by omega)
  refine a2e ?_;refine a6 _ rfl (fun r4=>?_) (fun r4=>?_)
  ·
   have h4:=r4
   have h4:=aa (au h4)
   try simp only [ty] at h4
   refine w_7 ?_;refine ⟨.inr rfl, ?_⟩
   have he:=aul (n:=n) (ps:=ps) (i:=i) (by omega) (by omega) (by omega) (fun e=>absurd (axp.2 e) (by assumption))
   exact f9 rfl rfl (by rw [he];exact ⟨CoC.agg ⟨CoP.refl _,dv,trivial⟩,CoC.refl _,trivial⟩)
  have h4:=r4
  have h4:=ae (ar h4)
  try simp only [ty] at h4
  refine w_4 ?_;refine m9 2 ?_;refine w_9 ?_
  refine ah (ι:=Nat) ⟨[(0,some _),(4,some _),(6,some _),(7,some _),(8,some _),(9,some _),(26,some _),(27,some _),(28,some _),(40,some _)],[(1,some _),(900,some _),(0,some _)]⟩ ⟨⟨c9,c9,c9,c9,c9,c9,c9,c9,c9,c9,trivial⟩,⟨u9,u9,u9,trivial⟩⟩ (fun k=>⟨[(41,some (vI k))],[(2,some (.arr true 1 3 n.toNat (lf zC (stT n i (ps.getD i default) k))))]⟩) (fun k=>k ≤ n.toNat) (fun k=>n.toNat - k) (0) (Nat.zero_le _) ⟨⟨zy,trivial⟩,⟨⟨_,rfl,(aff rfl (fun _=>rfl))⟩,trivial⟩⟩ ?_
  rintro k hk
  refine w_5 ?_;refine a6 _ rfl (fun r5=>?_) (fun r5=>?_)
  ·
   have h5:=ae r5
   try simp only [ty] at h5
   refine bbg ?_;refine a6 _ rfl (fun r6=>?_) (fun r6=>?_)
   ·
    have h6:=ae r6
    try simp only [ty] at h6
    refine f8 ?_;refine ⟨k + 1, ?_, ?_, ?_⟩
    · show k + 1 ≤ _;omega
    · first | omega | (dsimp only;omega)
    exact ⟨⟨zy,c9,c9,c9,c9,c9,c9,c9,c9,c9,c9,trivial⟩,⟨⟨_,rfl,(by first | exact aqz ((rh (by omega)).1 (by assumption)) rfl (by omega) (by omega) | exact ant (fun e=>absurd ((rh (by omega)).2 e) (by assumption)) rfl (by omega))⟩,u9,u9,u9,trivial⟩⟩
   have h6:=aa r6
   try simp only [ty] at h6
   refine w_5 ?_;refine ⟨k + 1, ?_, ?_, ?_⟩
   · show k + 1 ≤ _;omega
   · first | omega | (dsimp only;omega)
   exact ⟨⟨zy,c9,c9,c9,c9,c9,c9,c9,c9,c9,c9,trivial⟩,⟨⟨_,rfl,(by first | exact aqz ((rh (by omega)).1 (by assumption)) rfl (by omega) (by omega) | exact ant (fun e=>absurd ((rh (by omega)).2 e) (by assumption)) rfl (by omega))⟩,u9,u9,u9,trivial⟩⟩
  have h5:=aa r5
  try simp only [ty] at h5
  refine fe ?_;refine bi 9 rfl rfl rfl ?_;refine w_4 ?_;refine m9 3 ?_;refine ra 4 true rfl rfl rfl rfl rfl rfl ?_;refine w_7 ?_;refine ⟨i + 1, ?_, ?_, ?_⟩
  · exact ⟨by show i + 1 ≤ _;omega,bz hI (axp.1 (by assumption))⟩
  · first | omega | (dsimp only;omega)
  exact ⟨⟨zy,c9,c9,c9,c9,c9,trivial⟩,⟨u9,⟨_,rfl,(akt (fun h=>h) (fun j hj=>by obtain rfl:j = 0:=(by omega);exact atm (by omega) (by omega)))⟩,u9,trivial⟩⟩
 have h3:=aa r3
 try simp only [ty] at h3
 obtain rfl:i = ps.length:=by omega
 refine w_4 ?_
 refine bf rfl rfl rfl rfl rfl rfl abb ((abw n (cj n ps) (by rw [uv];omega))) (⟨⟨CoP.refl _,congrArg (HV.ref 900) (uv _ _).symm,trivial⟩,trivial⟩) ⟨⟨_,rfl,fy rfl (uv _ _).symm⟩,trivial⟩ rfl rfl ?_
 refine w_4 ?_;refine ⟨.inr rfl, ?_⟩
 have he:=aew (n:=n) (ps:=ps) (by omega) (by omega) (fun j hj=>hI j (by omega))
 exact f9 rfl rfl (by rw [he];exact CoL.refl _)
end
section
def eo (n:Int):Rw:=(List.range n.toNat).map fun (i:Nat)=>(i:Int)
theorem an2 (n:Int):(eo n).length = n.toNat:=by unfold eo;simp
theorem b4x {n:Int} {i:Nat} {p:AS} {k:Nat} (h:k < n.toNat):(stR n i p).getD k default = stV n i p k:=by
 unfold stR
 rw [List.getD_eq_getElem?_getD,List.getElem?_map,List.getElem?_range h]
 rfl
theorem ana {s:AS} {n:Int} (h0:0 ≤ n) (h1:n ≤ 16):sub s (aq n) ↔ s >>> n.toNat = 0:=by
 unfold aq
 rw [Nat.min_eq_left (by omega)]
 exact ur (by omega)
def b8n (l:List Rw) (x:Fd) (a b:Nat):Bool:=ld (l.getD a default) (l.getD b default) x.lhs && !(l.any fun r=>decide (r = fw (l.getD a default) (l.getD b default) x.rhs))
end
section
def Wel (n:Int) (l:List Rw):Prop:=∀ r,r ∈ l → r.length = n.toNat ∧ ∀ z,z ∈ r → 0 ≤ z
theorem a09 {l:List Rw} {i:Nat} (h:i < l.length):l.getD i default ∈ l:=by
 rw [List.getD_eq_getElem?_getD,List.getElem?_eq_getElem h]
 exact List.getElem_mem h
theorem vg {n:Int} {l:List Rw} (h:tok n l = true):Wel n l:=by
 obtain ⟨h0,h1,h2,h3⟩:=n7 h
 unfold tok at h
 rw [Bool.and_eq_true,decide_eq_true_iff,decide_eq_true_iff] at h
 rintro r hr
 obtain ⟨i,hi,rfl⟩:=List.getElem_of_mem hr
 have e:l.getD i default = l[i]:=by rw [List.getD_eq_getElem?_getD,List.getElem?_eq_getElem hi];rfl
 rw [← e]
 refine ⟨h3 i hi,fun z hz=>?_⟩
 have:=h.2 i hi
 unfold my at this
 rw [Bool.and_eq_true,Bool.and_eq_true] at this
 have h4:=this.1.2
 rw [Bool.not_eq_true',List.any_eq_false] at h4
 have:=h4 z hz
 rw [decide_eq_true_iff] at this
 omega
theorem azb {n:Int} {l:List Rw} (h:tok n l = true):ru l:=by
 unfold tok at h
 rw [Bool.and_eq_true,decide_eq_true_iff,decide_eq_true_iff] at h
 have hs:∀ d i:Nat,i + d + 1 < l.length → ltZ (l.getD i default) (l.getD (i + d + 1) default) = true:=by
  intro d
  induction d with
  | zero =>
   intro i hi
   have:=h.2 (i + 1) hi
   unfold my at this
   rw [Bool.and_eq_true,Bool.or_eq_true,decide_eq_true_iff] at this
   rcases this.2 with h5 | h5
   · omega
   exact h5
  | succ d ih =>
   intro i hi
   have h1:=ih i (by omega)
   have:=h.2 (i + d + 1 + 1) (by omega)
   unfold my at this
   rw [Bool.and_eq_true,Bool.or_eq_true,decide_eq_true_iff] at this
   rcases this.2 with h5 | h5
   · omega
   exact lb h1 h5
 unfold ru
 rw [List.pairwise_iff_getElem]
 intro i j hi hj hij
 obtain ⟨d,rfl⟩:∃ d,j = i + d + 1:=⟨j - i - 1,by omega⟩
 have:=hs d i hj
 rwa [List.getD_eq_getElem?_getD,List.getElem?_eq_getElem hi,List.getD_eq_getElem?_getD,List.getElem?_eq_getElem hj] at this
theorem b73 {n:Int} {l:List Rw} (h0:0 ≤ n) (h1:n ≤ 16) (h2:l.length ≤ 256) (hw:Wel n l) (ho:ru l):tok n l = true:=by
 refine ax4 h0 h1 h2 fun i hi=>?_
 obtain ⟨h3,h4⟩:=hw _ (a09 hi)
 refine ae5 (by omega) ?_ ?_
 · rw [List.any_eq_false]
   intro z hz
   have:=h4 z hz
   rw [decide_eq_true_iff]
   omega
 rcases Nat.eq_zero_or_pos i with h | h
 · exact .inl h
 right
 have:=List.pairwise_iff_getElem.1 ho (i - 1) i (by omega) hi (by omega)
 rw [List.getD_eq_getElem?_getD,List.getElem?_eq_getElem (by omega),List.getD_eq_getElem?_getD,List.getElem?_eq_getElem hi]
 exact this
theorem a33 {n:Int} {l:List Rw} (h0:0 ≤ n) (h1:n ≤ 16) (h2:(c5 l).length ≤ 256) (hw:Wel n l):tok n (c5 l) = true :=
 b73 h0 h1 h2 (fun r hr=>hw r (gc.1 hr)) (a0w l)
def inV (l:List Rw) (M:Nat → Nat → Int) (z:Int):Prop:=∃ i r,i < l.length ∧ r < (l.getD i default).length ∧ M i r = z
theorem al7 {l:List Rw} {z:Int}:inV l (fu l) z ↔ ∃ r,r ∈ l ∧ z ∈ r:=by
 constructor
 · rintro ⟨i,r,hi,hr,rfl⟩
   refine ⟨_,a09 hi, ?_⟩
   show (l.getD i default).getD r default ∈ _
   rw [List.getD_eq_getElem?_getD (l:=l.getD i default),List.getElem?_eq_getElem hr]
   exact List.getElem_mem hr
 rintro ⟨r,hr,hz⟩
 obtain ⟨i,hi,rfl⟩:=List.getElem_of_mem hr
 obtain ⟨k,hk,rfl⟩:=List.getElem_of_mem hz
 have e:l.getD i default = l[i]:=by rw [List.getD_eq_getElem?_getD,List.getElem?_eq_getElem hi];rfl
 refine ⟨i,k,hi,by rw [e];exact hk, ?_⟩
 show (l.getD i default).getD k default = _
 rw [e,List.getD_eq_getElem?_getD,List.getElem?_eq_getElem hk]
 rfl
theorem a7r {l:List Rw} {M:Nat → Nat → Int} {z:Int}:(∃ r,r ∈ ey l M ∧ z ∈ r) ↔ inV l M z:=by
 constructor
 · rintro ⟨r,hr,hz⟩
   unfold ey at hr
   rw [List.mem_map] at hr
   obtain ⟨i,hi,rfl⟩:=hr
   rw [List.mem_map] at hz
   obtain ⟨k,hk,rfl⟩:=hz
   exact ⟨i,k,List.mem_range.1 hi,List.mem_range.1 hk,rfl⟩
 rintro ⟨i,k,hi,hk,rfl⟩
 refine ⟨(List.range (l.getD i default).length).map (M i), ?_,List.mem_map.2 ⟨k,List.mem_range.2 hk,rfl⟩⟩
 unfold ey
 exact List.mem_map.2 ⟨i,List.mem_range.2 hi,rfl⟩
section
variable {l:List Rw} {a b:Nat} (ha:a < l.length) (hb:b < l.length)
theorem alz (x y:Int):loI x y = x ∨ loI x y = y:=by unfold loI;split <;> simp
theorem ay5 (x y:Int):hiI x y = x ∨ hiI x y = y:=by unfold hiI;split <;> simp
include ha hb in
theorem b9b {M:Nat → Nat → Int} {j:Nat} (hja:j < (l.getD a default).length) (hjb:j < (l.getD b default).length) {z:Int} (h:inV l (eqM M a b j) z):inV l M z:=by
 obtain ⟨i,r,hi,hr,he⟩:=h
 unfold eqM at he
 split at he
 · rcases alz (M a j) (M b j) with h | h
   · exact ⟨a,j,ha,hja,by rw [← he,h]⟩
   exact ⟨b,j,hb,hjb,by rw [← he,h]⟩
 exact ⟨i,r,hi,hr,he⟩
include ha hb in
theorem afr:∀ {js:List Nat} {M:Nat → Nat → Int},(∀ j,j ∈ js → j < (l.getD a default).length ∧ j < (l.getD b default).length) → ∀ {z:Int},inV l (eqMs M a b js) z → inV l M z
 | [],_,_,_,h=>h
 | j :: js,M,hj,z,h=>b9b ha hb (hj j (by simp)).1 (hj j (by simp)).2 (afr (js:=js) (M:=eqM M a b j) (fun k hk=>hj k (by simp [hk])) h)
include ha hb in
theorem acy:∀ {js:List Nat} {M:Nat → Nat → Int},(∀ j,j ∈ js → j < (l.getD a default).length ∧ j < (l.getD b default).length) → (∃ j,j ∈ js ∧ ¬ M a j = M b j) → ∃ z,inV l M z ∧ ¬ inV l (eqMs M a b js) z
 | [],_,_,⟨_,h,_⟩=>by simp at h
 | j :: js,M,hj,⟨k,hk,hne⟩=>by
  by_cases e:M a j = M b j
  · have e2:eqMs M a b (j :: js) = eqMs M a b js:=by
     show eqMs (eqM M a b j) a b js = _
     rw [a7f e]
    rw [e2]
    refine acy (fun k hk=>hj k (by simp [hk])) ⟨k, ?_,hne⟩
    rcases List.mem_cons.1 hk with h | h
    · subst h;exact absurd e hne
    exact h
  refine ⟨hiI (M a j) (M b j), ?_,fun h=>?_⟩
  · rcases ay5 (M a j) (M b j) with h | h
    · exact ⟨a,j,ha,(hj j (by simp)).1,h.symm⟩
    exact ⟨b,j,hb,(hj j (by simp)).2,h.symm⟩
  obtain ⟨i,r,hi,hr,he⟩:=afr ha hb (fun k hk=>hj k (by simp [hk])) (show inV l (eqMs (eqM M a b j) a b js) _ from h)
  unfold eqM at he
  split at he
  · unfold hiI loI at he
    split at he <;> split at he <;> omega
  rename_i h2
  exact h2 he
end
def aal (Z:List Int) (l:List Rw):Nat:=Z.countP fun z=>l.any fun r=>decide (z ∈ r)
def muC (Z:List Int) (l:List Rw):Nat:=aal Z l * 300 + (300 - l.length)
def Cov (Z:List Int) (l:List Rw):Prop:=∀ r,r ∈ l → ∀ z,z ∈ r → z ∈ Z
theorem vv {l:List Rw} {z:Int}:(l.any fun r=>decide (z ∈ r)) = true ↔ ∃ r,r ∈ l ∧ z ∈ r:=by
 rw [List.any_eq_true]
 exact ⟨fun ⟨r,h,h2⟩=>⟨r,h,of_decide_eq_true h2⟩,fun ⟨r,h,h2⟩=>⟨r,h,decide_eq_true h2⟩⟩
theorem countP_lt' {p q:Int → Bool}:∀ {Z:List Int},(∀ z,p z = true → q z = true) → (∃ z,z ∈ Z ∧ q z = true ∧ p z = false) → Z.countP p < Z.countP q
 | [],_,⟨_,h,_⟩=>by simp at h
 | x :: Z,h,⟨z,hz,hq,hp⟩=>by
  have hm:Z.countP p ≤ Z.countP q:=List.countP_mono_left fun z _=>h z
  rw [List.countP_cons,List.countP_cons]
  rcases List.mem_cons.1 hz with rfl | hz
  · rw [hq,hp]
    simp only [if_true,Bool.false_eq_true,if_false]
    omega
  have:=countP_lt' (Z:=Z) h ⟨z,hz,hq,hp⟩
  by_cases e:p x = true
  · rw [e,h x e];omega
  rw [if_neg e];omega
theorem b21 {Z:List Int} {l l':List Rw} (h:∀ z,(∃ r,r ∈ l' ∧ z ∈ r) → ∃ r,r ∈ l ∧ z ∈ r) (h2:∃ z,z ∈ Z ∧ (∃ r,r ∈ l ∧ z ∈ r) ∧ ¬ ∃ r,r ∈ l' ∧ z ∈ r):aal Z l' < aal Z l:=by
 refine countP_lt' (fun z hz=>vv.2 (h z (vv.1 hz))) ?_
 obtain ⟨z,h3,h4,h5⟩:=h2
 exact ⟨z,h3,vv.2 h4,by rw [Bool.eq_false_iff];exact fun e=>h5 (vv.1 e)⟩
theorem b1c {Z:List Int} {l l':List Rw} (h:∀ z,(∃ r,r ∈ l' ∧ z ∈ r) → ∃ r,r ∈ l ∧ z ∈ r):aal Z l' ≤ aal Z l :=
 List.countP_mono_left fun z _ hz=>vv.2 (h z (vv.1 hz))
end
section
theorem ags {r:Rw}:∀ {l:List Rw},r ∉ l → (jr r l).length = l.length + 1
 | [],_=>rfl
 | y :: l,h=>by
  unfold jr
  have h1:¬ r = y:=fun e=>h (by rw [e];simp)
  have h2:=ags (l:=l) (r:=r) fun e=>h (by simp [e])
  rw [if_neg h1]
  split
  · simp
  simp only [List.length_cons];omega
theorem aos {l:List Rw} {r:Rw} (ho:ru l):c5 (l ++ [r]) = jr r l:=by
 have e:l = c5 l:=af6 ho fun _=>Iff.rfl
 have:c5 (l ++ [r]) = jr r (c5 l):=by
  unfold c5
  rw [List.foldl_append]
  rfl
 rw [this,← e]
section
variable {n:Int} {l:List Rw} {a b:Nat} {x:Fd}
abbrev fdL (l:List Rw) (a b:Nat) (x:Fd):List Rw:=c5 (ey l (eqMs (fu l) a b (ap x.rhs)))
theorem am9 (hT:tok n l = true) (hu:inU n x = true) (ha:a < l.length) (hb:b < l.length) (hs:gt l x a b = true) :
 fdE n l a b x = (n,fdL l a b x,0) ∧ tok n (fdL l a b x) = true ∧ (∀ z,(∃ r,r ∈ fdL l a b x ∧ z ∈ r) → ∃ r,r ∈ l ∧ z ∈ r) ∧ ∀ Z,Cov Z l → muC Z (fdL l a b x) < muC Z l:=by
 obtain ⟨h0,h1,h2,h3⟩:=n7 hT
 have hw:=vg hT
 unfold gt at hs
 rw [Bool.and_eq_true,Bool.not_eq_true'] at hs
 obtain ⟨hl,hr⟩:=hs
 have hj:∀ j,j ∈ ap x.rhs → j < (l.getD a default).length ∧ j < (l.getD b default).length:=fun j hj=>by
  have:=aa9 h0 h1 hu hj
  exact ⟨by rw [h3 a ha];exact this,by rw [h3 b hb];exact this⟩
 have hV:∀ z,(∃ r,r ∈ fdL l a b x ∧ z ∈ r) → ∃ r,r ∈ l ∧ z ∈ r:=fun z ⟨r,hr,hz⟩=>al7.1 (afr ha hb hj (a7r.1 ⟨r,gc.1 hr,hz⟩))
 have hlen:(fdL l a b x).length ≤ l.length:=Nat.le_trans (ad8 _) (Nat.le_of_eq (ni _ _))
 refine ⟨if_pos hl,a33 h0 h1 (Nat.le_trans hlen h2) (fun r hr=>⟨?_,fun z hz=>?_⟩),hV,fun Z hZ=>?_⟩
 · unfold ey at hr
   rw [List.mem_map] at hr
   obtain ⟨i,hi,rfl⟩:=hr
   rw [List.length_map,List.length_range]
   exact h3 i (List.mem_range.1 hi)
 · obtain ⟨r2,h5,h6⟩:=hV z ⟨r,gc.2 hr,hz⟩
   exact (hw r2 h5).2 z h6
 have hne:∃ j,j ∈ ap x.rhs ∧ ¬ fu l a j = fu l b j:=by
  apply Classical.byContradiction
  intro hno
  rw [a3x] at hr
  · cases hr
  intro i hi hh
  apply Classical.byContradiction
  intro e
  have hi2:i < 32:=by
   have:=h3 a ha
   omega
  rw [n4 hi2] at hh
  exact hno ⟨i,kb.2 ⟨hi2,hh⟩,e⟩
 obtain ⟨z,hz1,hz2⟩:=acy ha hb hj hne
 have hz3:=al7.1 hz1
 have:=b21 (Z:=Z) hV ⟨z,by obtain ⟨r,h7,h8⟩:=hz3;exact hZ r h7 z h8,hz3,fun ⟨r,h7,h8⟩=>hz2 (a7r.1 ⟨r,gc.1 h7,h8⟩)⟩
 unfold muC
 omega
abbrev mvL (l:List Rw) (a b:Nat) (x:Fd):List Rw:=c5 (l ++ [fw (l.getD a default) (l.getD b default) (x.lhs ||| x.rhs)])
theorem bad (hT:tok n l = true) (ha:a < l.length) (hb:b < l.length) (hs:gr l x a b = true) :
 mvE n l a b x = (0,[],3) ∨ (mvE n l a b x = (n,mvL l a b x,0) ∧ tok n (mvL l a b x) = true ∧ (∀ z,(∃ r,r ∈ mvL l a b x ∧ z ∈ r) → ∃ r,r ∈ l ∧ z ∈ r) ∧ ∀ Z,Cov Z l → muC Z (mvL l a b x) < muC Z l):=by
 obtain ⟨h0,h1,h2,h3⟩:=n7 hT
 have hw:=vg hT
 unfold gr at hs
 rw [Bool.and_eq_true,Bool.not_eq_true'] at hs
 obtain ⟨hl,hr⟩:=hs
 have hno:=b05 hr
 have hE:mvE n l a b x = ss n l (fw (l.getD a default) (l.getD b default) (x.lhs ||| x.rhs)):=if_pos hl
 by_cases hbig:256 < (mvL l a b x).length
 · left
   rw [hE]
   exact if_pos hbig
 right
 have hmem:∀ z,z ∈ fw (l.getD a default) (l.getD b default) (x.lhs ||| x.rhs) → z ∈ l.getD a default ∨ z ∈ l.getD b default:=fun z hz=>by
  unfold fw at hz
  rw [List.mem_map] at hz
  obtain ⟨i,hi,rfl⟩:=hz
  have hi:=List.mem_range.1 hi
  have hi2:i < (l.getD a default).length:=by rw [h3 a ha,← h3 b hb];exact hi
  split
  · left
    rw [List.getD_eq_getElem?_getD (l:=l.getD a default),List.getElem?_eq_getElem hi2]
    exact List.getElem_mem hi2
  right
  rw [List.getD_eq_getElem?_getD (l:=l.getD b default),List.getElem?_eq_getElem hi]
  exact List.getElem_mem hi
 have hV:∀ z,(∃ r,r ∈ mvL l a b x ∧ z ∈ r) → ∃ r,r ∈ l ∧ z ∈ r:=fun z ⟨r,hr,hz⟩=>by
  rcases List.mem_append.1 (gc.1 hr) with h | h
  · exact ⟨r,h,hz⟩
  rw [List.mem_singleton] at h
  subst h
  rcases hmem z hz with h | h
  · exact ⟨_,a09 ha,h⟩
  exact ⟨_,a09 hb,h⟩
 refine ⟨by rw [hE];exact if_neg hbig,a33 h0 h1 (Nat.le_of_not_lt fun e=>hbig e) (fun r hr=>⟨?_,fun z hz=>?_⟩),hV,fun Z hZ=>?_⟩
 · rcases List.mem_append.1 hr with h | h
   · exact (hw r h).1
   rw [List.mem_singleton] at h
   subst h
   rw [pj]
   exact h3 b hb
 · obtain ⟨r2,h5,h6⟩:=hV z ⟨r,gc.2 hr,hz⟩
   exact (hw r2 h5).2 z h6
 have e:(mvL l a b x).length = l.length + 1:=by
  show (c5 _).length = _
  rw [aos (azb hT),ags hno]
 have:=b1c (Z:=Z) hV
 unfold muC
 omega
end
theorem apd {α:Type} {f:Nat → Option α}:∀ {n:Nat} {x:α},(List.range n).findSome? f = some x → ∃ k,k < n ∧ f k = some x:=fun {n x} h=>by
 obtain ⟨k,hk,e⟩:=List.exists_of_findSome?_eq_some h
 exact ⟨k,List.mem_range.1 hk,e⟩
theorem a8g {P:Nat → Nat → Nat → Bool} {I L i a b:Nat} (h:kx P I L = some (i,a,b)):i < I ∧ a < L ∧ b < L ∧ P i a b = true:=by
 obtain ⟨i',hi,h⟩:=apd h
 obtain ⟨a',ha,h⟩:=apd h
 rw [Option.map_eq_some_iff] at h
 obtain ⟨b',hb,e⟩:=h
 simp only [Prod.mk.injEq] at e
 obtain ⟨rfl,rfl,rfl⟩:=e
 exact ⟨hi,ha,List.mem_range.1 (List.mem_of_find?_eq_some hb),by simpa using List.find?_some hb⟩
def y7 (l:List Rw) (p m:List Fd) (s:St):Prop:=s.2.2.1 < l.length ∧ s.2.2.2 < l.length ∧ ((s.1 = false ∧ s.2.1 < p.length ∧ gt l (p.getD s.2.1 default) s.2.2.1 s.2.2.2 = true) ∨ (s.1 = true ∧ s.2.1 < m.length ∧ gr l (m.getD s.2.1 default) s.2.2.1 s.2.2.2 = true))
theorem aaj {l:List Rw} {p m:List Fd} {s:St} (h:fj l p m = some s):y7 l p m s:=by
 unfold fj at h
 split at h
 · rename_i x e
   simp only [Option.some.injEq] at h
   subst h
   obtain ⟨i,a,b⟩:=x
   obtain ⟨h1,h2,h3,h4⟩:=a8g e
   exact ⟨h2,h3, .inl ⟨rfl,h1,h4⟩⟩
 rw [Option.map_eq_some_iff] at h
 obtain ⟨⟨i,a,b⟩,e,rfl⟩:=h
 obtain ⟨h1,h2,h3,h4⟩:=a8g e
 exact ⟨h2,h3, .inr ⟨rfl,h1,h4⟩⟩
def ez (n:Int) (l:List Rw) (p m:List Fd) (s:St):Int × List Rw × Int:=if s.1 = true then mvE n l s.2.2.1 s.2.2.2 (m.getD s.2.1 default) else fdE n l s.2.2.1 s.2.2.2 (p.getD s.2.1 default)
theorem agv {n:Int} {l:List Rw} {p m:List Fd} {s:St} (hT:tok n l = true) (hp:p.all (inU n) = true) (h:y7 l p m s) :
 ez n l p m s = (0,[],3) ∨ ∃ l',ez n l p m s = (n,l',0) ∧ tok n l' = true ∧ (∀ Z,Cov Z l → Cov Z l' ∧ muC Z l' < muC Z l):=by
 obtain ⟨ha,hb,h | h⟩:=h
 · obtain ⟨h1,h2,h3⟩:=h
   have hu:inU n (p.getD s.2.1 default) = true:=List.all_eq_true.1 hp _ (by rw [List.getD_eq_getElem?_getD,List.getElem?_eq_getElem h2];exact List.getElem_mem h2)
   obtain ⟨e,h4,h5,h6⟩:=am9 hT hu ha hb h3
   exact .inr ⟨_,by unfold ez;rw [if_neg (by rw [h1];decide)];exact e,h4,fun Z hZ=>⟨fun r hr z hz=>by obtain ⟨r2,h7,h8⟩:=h5 z ⟨r,hr,hz⟩;exact hZ r2 h7 z h8,h6 Z hZ⟩⟩
 obtain ⟨h1,h2,h3⟩:=h
 rcases bad hT ha hb h3 with e | ⟨e,h4,h5,h6⟩
 · exact .inl (by unfold ez;rw [if_pos h1];exact e)
 exact .inr ⟨_,by unfold ez;rw [if_pos h1];exact e,h4,fun Z hZ=>⟨fun r hr z hz=>by obtain ⟨r2,h7,h8⟩:=h5 z ⟨r,hr,hz⟩;exact hZ r2 h7 z h8,h6 Z hZ⟩⟩
def i7:Nat → Int → List Rw → List Fd → List Fd → List St → List St × (Int × List Rw) × Int
 | 0,_,_,_,_,_=>([],(0,[]),0)
 | f + 1,n,l,p,m,acc =>
  match fj l p m with
  | none=>(acc,(n,l),0)
  | some s=>match ez n l p m s with
   | (n',l',e)=>if e = 0 then i7 f n' l' p m (acc ++ [s]) else ([],(0,[]),e)
theorem a9j {f:Nat} {n:Int} {l:List Rw} {p m:List Fd} {acc:List St} (hf:0 < f) (h:fj l p m = none):i7 f n l p m acc = (acc,(n,l),0):=by
 obtain ⟨g,rfl⟩:∃ g,f = g + 1:=⟨f - 1,by omega⟩
 unfold i7
 rw [h]
theorem a9t {f:Nat} {n:Int} {l:List Rw} {p m:List Fd} {acc:List St} {s:St} (hf:0 < f) (h:fj l p m = some s) {n' e:Int} {l':List Rw} (h2:ez n l p m s = (n',l',e)) (he:¬ e = 0):i7 f n l p m acc = ([],(0,[]),e):=by
 obtain ⟨g,rfl⟩:∃ g,f = g + 1:=⟨f - 1,by omega⟩
 unfold i7
 rw [h]
 simp only
 rw [h2]
 simp only
 rw [if_neg he]
theorem y9 {f:Nat} {n:Int} {l:List Rw} {p m:List Fd} {acc:List St} {s:St} (hf:0 < f) (h:fj l p m = some s) {n':Int} {l':List Rw} (h2:ez n l p m s = (n',l',0)):i7 f n l p m acc = i7 (f - 1) n' l' p m (acc ++ [s]):=by
 obtain ⟨g,rfl⟩:∃ g,f = g + 1:=⟨f - 1,by omega⟩
 rw [Nat.add_sub_cancel]
 conv=>lhs;unfold i7
 rw [h]
 simp only
 rw [h2]
 simp only
 rw [if_pos trivial]
end
section
open Go.Proofs
theorem b81 (n:Int) (l:List Rw) (p m:List Fd) (s:St) (hT:tok n l = true) (hp:p.all (inU n) = true) (h:y7 l p m s) :
 af Tryz.prog 176 [pT n l,pP (fdl p),pP (fdl m),s.pc] (aj [pT (ez n l p m s).1 (ez n l p m s).2.1,pI (ez n l p m s).2.2]):=by
 obtain ⟨mu,i,a,b⟩:=s
 obtain ⟨ha,hb,h | h⟩:=h
 · obtain ⟨h1,h2,h3⟩:=h
   cases h1
   exact aj6 n l p m i a b hT ha hb h2 (List.all_eq_true.1 hp _ (by rw [List.getD_eq_getElem?_getD,List.getElem?_eq_getElem h2];exact List.getElem_mem h2))
 obtain ⟨h1,h2,h3⟩:=h
 cases h1
 exact aip n l p m i a b hT ha hb h2
abbrev St.c (s:St):Nat → PV:=fun j=>[.raw (.bool s.1), .raw (.int .i64 (s.2.1:Int)), .raw (.int .i64 (s.2.2.1:Int)), .raw (.int .i64 (s.2.2.2:Int))].getD j .any
abbrev stl (l:List St):PV:=psl 4 St.c l
abbrev ckE (n:Int) (l:List Rw) (p m:List Fd):Int:=if tok n l = true then d9 n p m else 1
theorem ag5 {n:Int} {l:List Rw} {p m:List Fd} (h:ckE n l p m = 0):tok n l = true ∧ d9 n p m = 0 ∧ p.all (inU n) = true:=by
 unfold ckE at h
 by_cases e:tok n l = true
 · rw [if_pos e] at h
   exact ⟨e,h,(m8 h).2.2.2.1⟩
 rw [if_neg e] at h;omega
def jz (F:Nat) (n:Int) (l:List Rw) (p m:List Fd):List St × (Int × List Rw) × Int:=if ckE n l p m = 0 then i7 F n l p m [] else ([],(0,[]),ckE n l p m)
theorem at3 {F:Nat} {n:Int} {l:List Rw} {p m:List Fd} (h:¬ ckE n l p m = 0):jz F n l p m = ([],(0,[]),ckE n l p m):=if_neg h
theorem a1k {F:Nat} {n:Int} {l:List Rw} {p m:List Fd} (h:ckE n l p m = 0):jz F n l p m = i7 F n l p m []:=if_pos h
theorem b2u {α:Type} {o:Option α} (h:o.isSome = false):o = none:=by cases o <;> simp_all
theorem b1m {α:Type} {o:Option α} (d:α) (h:o.isSome = true):o = some (o.getD d):=by cases o <;> simp_all
theorem agh (l:List Rw):Cov l.flatten l:=fun r hr z hz=>List.mem_flatten.2 ⟨r,hr,hz⟩
structure StI (F:Nat) (n:Int) (l:List Rw) (p m:List Fd) (x:Nat × List Rw × List St):Prop where
 t:tok n x.2.1 = true
 c:Cov l.flatten x.2.1
 u:muC l.flatten x.2.1 < x.1
 b:x.2.2.length + x.1 ≤ F
 e:i7 x.1 n x.2.1 p m x.2.2 = i7 F n l p m []
theorem StI.start {F:Nat} {n:Int} {l:List Rw} {p m:List Fd} (hT:tok n l = true) (hF:muC l.flatten l < F):StI F n l p m (F,l,[]):=⟨hT,agh l,hF,by simp,rfl⟩
theorem StI.next {F:Nat} {n:Int} {l:List Rw} {p m:List Fd} {x:Nat × List Rw × List St} {s:St} (h:StI F n l p m x) (hp:p.all (inU n) = true) (hS:fj x.2.1 p m = some s) (he:(ez n x.2.1 p m s).2.2 = 0) :
 (ez n x.2.1 p m s).1 = n ∧ StI F n l p m (x.1 - 1,(ez n x.2.1 p m s).2.1,x.2.2 ++ [s]):=by
 have hu:=h.u
 have hb:=h.b
 rcases agv h.t hp (aaj hS) with e | ⟨l',e,h1,h2⟩
 · rw [e] at he;exact absurd he (by decide)
 have hq:=h2 _ h.c
 refine ⟨by rw [e], ?_⟩
 rw [e]
 exact ⟨h1,hq.1,by show muC _ l' < _;omega,by simp only [List.length_append,List.length_singleton];omega,by rw [← h.e,y9 (by omega) hS e]⟩
theorem StI.fin {F:Nat} {n:Int} {l:List Rw} {p m:List Fd} {x:Nat × List Rw × List St} (h:StI F n l p m x) (hS:fj x.2.1 p m = none):i7 F n l p m [] = (x.2.2,(n,x.2.1),0):=by
 have hu:=h.u
 rw [← h.e,a9j (by omega) hS]
theorem StI.err {F:Nat} {n:Int} {l:List Rw} {p m:List Fd} {x:Nat × List Rw × List St} {s:St} (h:StI F n l p m x) (hS:fj x.2.1 p m = some s) (he:¬ (ez n x.2.1 p m s).2.2 = 0):i7 F n l p m [] = ([],(0,[]),(ez n x.2.1 p m s).2.2):=by
 have hu:=h.u
 rw [← h.e]
 exact a9t (by omega) hS rfl he
end
section
open Go.Proofs
theorem b45:goodFn Tryz.prog 151:=wgx Tryz.func151
theorem b7c (F:Nat) (n:Int) (l:List Rw) (p m:List Fd) (hF:tok n l = true → muC l.flatten l < F) (hFb:F ≤ 4000000000):af Tryz.prog 151 [pT n l,pP (fdl p),pP (fdl m)] (aj [pP (stl (jz F n l p m).1),pT (jz F n l p m).2.1.1 (jz F n l p m).2.1.2,pI (jz F n l p m).2.2]):=by
 refine a8 (nt:=53) a7 Tryz.func151 rfl rfl l9 ?_;refine sx7 ?_;refine m9 0 ?_;refine qy ?_;refine m9 1 ?_;refine w_8 ?_;refine qcx abh (a81 n l p m) ?_;refine w_7 ?_
 refine a6 _ rfl (fun r0=>?_) (fun r0=>?_)
 ·
  have h0:=r0
  have h0:=aa (au h0)
  try simp only [ty] at h0
  refine w_9 ?_;refine ⟨.inr rfl, ?_⟩
  have he:=at3 (F:=F) (n:=n) (l:=l) (p:=p) (m:=m) (by assumption)
  exact f9 rfl rfl (by rw [he];exact ⟨CoC.one (CoP.sl rfl (.inr rfl) (fun _=>rfl) (fun i j hi _=>absurd hi (Nat.not_lt_zero i))),CoC.agg ⟨CoP.refl _,dv,trivial⟩,CoC.refl _,trivial⟩)
 have h0:=r0
 have h0:=ae (ar h0)
 try simp only [ty] at h0
 have hck:ckE n l p m = 0:=by assumption
 obtain ⟨hT,hbe,hpa⟩:=ag5 hck
 obtain ⟨hn0,hn16,hl256,hrow⟩:=n7 hT
 have hbig:∀ i,i < l.length → (l.getD i default).length ≤ 17592186044416:=fun i hi=>by rw [hrow i hi];omega
 refine w_4 ?_;refine qcx aas (at5 n l hbig (by omega)) ?_;refine w_6 ?_
 refine d6 10 900 true 4 129 (lf St.c []) (by decide) rfl (CoP.sl rfl (.inr rfl) (fun h=>h) (fun i j hi _=>absurd hi (Nat.not_lt_zero i))) (.inr rfl) rfl ?_;refine agw ?_
 refine ah (ι:=Nat × List Rw × List St) ⟨[(1,some _),(2,some _),(3,some _),(7,some _)],[(1,some _)]⟩ ⟨⟨c9,c9,c9,c9,trivial⟩,⟨u9,trivial⟩⟩ (fun x=>⟨[(10,some (.v (.one (.ref 900 x.2.2.length))))],[(0,some (.box [.p (.raw (.int .i64 n)), .p (rl x.2.1)])),(900,some (.arr true 4 129 x.2.2.length (lf St.c x.2.2)))]⟩) (fun x=>StI F n l p m x) (fun x=>x.1) ((F,l,[])) (StI.start hT (hF hT)) ⟨⟨zy,trivial⟩,⟨u9,u9,trivial⟩⟩ ?_
 rintro x hX
 have hXu:=hX.u
 have hXb:=hX.b
 refine w_6 ?_;refine qcx ayl (b48 n x.2.1 p m hX.t) ?_;refine w_3 ?_;refine m9 2 ?_;refine w_9 ?_;refine a6 _ rfl (fun r1=>?_) (fun r1=>?_)
 ·
  have h1:=r1
  have h1:=au h1
  have hS:=b2u (by simpa using h1)
  refine d8 ?_;refine bg (E:=bj) a7 aw [0,1,2,3,4] ?_;refine w_6 ?_;refine ⟨by kernel_rfl, ?_⟩;refine bi 6 rfl rfl rfl ?_;refine go ?_;refine ⟨.inr rfl, ?_⟩
  have he:=(a1k hck).trans (hX.fin hS)
  exact f9 rfl rfl (by rw [he];exact CoL.refl _)
 have h1:=r1
 have h1:=ar h1
 have hS:=b1m (false,0,0,0) (by simpa using h1)
 refine w_7 ?_;refine qcx abr (b81 n x.2.1 p m ((fj x.2.1 p m).getD (false,0,0,0)) hX.t hpa (aaj hS)) ?_;refine w_3 ?_;refine m9 3 ?_;refine w_9 ?_;refine a6 _ rfl (fun r2=>?_) (fun r2=>?_)
 ·
  have h2:=r2
  have h2:=aa (au h2)
  try simp only [ty] at h2
  refine w_9 ?_;refine ⟨.inr rfl, ?_⟩
  have he:=(a1k hck).trans (hX.err hS (by assumption))
  exact f9 rfl rfl (by rw [he];exact ⟨CoC.one (CoP.sl rfl (.inr rfl) (fun _=>rfl) (fun i j hi _=>absurd hi (Nat.not_lt_zero i))),CoC.agg ⟨CoP.refl _,dv,trivial⟩,CoC.refl _,trivial⟩)
 have h2:=r2
 have h2:=ae (ar h2)
 try simp only [ty] at h2
 have hnx:=hX.next hpa hS (by assumption)
 refine dn ?_;refine bg (E:=bj) a7 aw [0,1,2,3,4,5,6] ?_;refine w_2 ?_;refine m9 4 ?_;refine ra 5 true rfl rfl rfl rfl rfl rfl ?_;refine w_4 ?_;refine ⟨by kernel_rfl, ?_⟩
 refine ⟨(x.1 - 1,(ez n x.2.1 p m ((fj x.2.1 p m).getD (false,0,0,0))).2.1,x.2.2 ++ [((fj x.2.1 p m).getD (false,0,0,0))]), ?_, ?_, ?_⟩
 · exact hnx.2
 · show x.1 - 1 < x.1
   omega
 exact ⟨⟨⟨_,rfl,(ca rfl)⟩,c9,c9,c9,c9,trivial⟩,⟨⟨_,rfl,⟨CoP.of_eq (by rw [hnx.1]),CoH.refl _,trivial⟩⟩,⟨_,rfl,(abe rfl (fun j hj=>by match j,hj with | 0,_=>exact CoP.refl _ | 1,_=>exact CoP.refl _ | 2,_=>exact CoP.refl _ | 3,_=>exact CoP.refl _) rfl)⟩,u9,trivial⟩⟩
end
end Go.Hx
