/- A part of the proof: X14 Ch11 Ch12 Ch13 X15 Ch14 Ch17 X20 Ch18. -/
import Derived.Test.YtidophngianjiaaGreatDoorBx15
import Derived.Test.YtidophngianjiaaGreatDoorBx19
import Derived.Test.YtidophngianjiaaGreatDoorBx26
set_option linter.all false
section
namespace Go.Hx
open Go.Proofs
set_option maxRecDepth 100000
theorem b0z:goodFn Tryz.prog 97:=⟨Tryz.f97,Tryz.func97,by kernel_rfl,by kernel_rfl⟩
theorem ayd (n:Int) (h16:n ≤ 16):ai Tryz.prog 97 [pI n] (ao [pZ (ct n)]):=by
 refine ah (nt:=15) ae Tryz.func97 rfl rfl l9 ?_;refine sx7 ?_;refine qy ?_;refine a6 ?_;refine sx7 ?_;refine qy ?_;refine a6 ?_
 refine db 3 900 true 1 3 (lf zC (ct n)) (by decide) rfl (CoP.sl rfl (.inr rfl) (fun h=>h) (fun i j hi _=>absurd hi (Nat.not_lt_zero i))) (.inr rfl) rfl ?_;refine a7 ?_;refine sx7 ?_;refine qy ?_
 refine a6 ?_;refine ab ?_
 refine aj (ι:=Nat) ⟨[(0,some _)],[]⟩ ⟨⟨c9,trivial⟩,trivial⟩ (fun i=>⟨[(3,some (.v (.one (.ref 900 i)))),(4,some (vI i))],[(900,some (.arr true 1 3 i (lf zC (ct n))))]⟩) (fun i=>i ≤ n.toNat) (fun i=>n.toNat - i) (0) (Nat.zero_le _) ⟨⟨zy,zy,trivial⟩,⟨u9,trivial⟩⟩ ?_
 rintro i hi
 refine a7 ?_;refine sx7 ?_;(iterate 3 refine qy ?_);refine a6 ?_;refine a8 _ rfl (fun r0=>?_) (fun r0=>?_)
 ·
  have h0:=of_decide_eq_true r0
  try simp only [ty] at h0
  refine aa ?_;refine a7 ?_;refine ab ?_;refine gy ?_;(iterate 2 refine qy ?_);refine m9 0 ?_;refine ra 1 true rfl rfl rfl rfl rfl rfl ?_;refine qy ?_;refine a6 ?_;refine gy ?_;(iterate 3 refine qy ?_)
  refine a6 ?_;refine ⟨i + 1, ?_, ?_, ?_⟩
  · show i + 1 ≤ _;omega
  · first | omega | (dsimp only;omega)
  · exact ⟨⟨zy,zy,c9,trivial⟩,⟨⟨_,rfl,(n5 (fun h=>h) (fun j hj=>by obtain rfl:j = 0:=(by omega);exact apw (by omega)))⟩,trivial⟩⟩
 ·
  have h0:=of_decide_eq_false r0
  try simp only [ty] at h0
  refine ak ?_;refine a7 ?_;refine bn 3 rfl rfl rfl ?_;refine gy ?_;(iterate 2 refine qy ?_);refine a6 ?_
  exact hx8 rfl rfl rfl (⟨CoC.one (CoP.sl (by rw [yt];omega) (.inl rfl) (fun h=>h) fun a j ha hj=>CoP.refl _),trivial⟩)
theorem avy:goodFn Tryz.prog 144:=⟨Tryz.f144,Tryz.func144,by kernel_rfl,by kernel_rfl⟩
theorem axl (n:Int) (ps:List AS):ai Tryz.prog 144 [pI n,pP (asl ps)] (ao [pT (fb n ps).1 (fb n ps).2.1,pI (fb n ps).2.2]):=by
 refine ah (nt:=68) ae Tryz.func144 rfl rfl l9 ?_;refine sx7 ?_;refine m9 0 ?_;refine qy ?_;refine a6 ?_;refine a7 ?_;refine sx7 ?_;(iterate 3 refine qy ?_)
 refine b4 rfl rfl (fun r0=>?_) (fun r0=>?_)
 ·
  have h0:=of_decide_eq_true r0
  try simp only [ty] at h0
  (iterate 2 refine k9 (gtf r0) ?_);refine rq rfl rfl rfl rfl rfl ?_ (hp:=r0);refine a6 ?_;refine a8 _ rfl (fun _=>?_) (fun e=>by cases e);refine sx7 ?_;refine qy ?_;refine s9 ?_;refine qy ?_
  refine a6 ?_;refine ap ?_;refine ⟨.inr rfl, ?_⟩
  have he:=zh (n:=n) (ps:=ps) (by omega)
  exact f9 rfl rfl (by rw [he];exact ⟨CoC.agg ⟨CoP.refl _,bz,trivial⟩,CoC.refl _,trivial⟩)
 ·
  have h0:=of_decide_eq_false r0
  try simp only [ty] at h0
  (iterate 2 refine qy ?_ (hg:=(gff r0)));refine qy ?_;refine a6 ?_;refine a8 _ rfl (fun r1=>?_) (fun r1=>?_)
  ·
   have h1:=r1
   have h1:=bg r0 h1
   have h1:=of_decide_eq_true h1
   try simp only [ty] at h1
   refine sx7 ?_;refine qy ?_;refine s9 ?_;refine qy ?_;refine a6 ?_;refine ap ?_;refine ⟨.inr rfl, ?_⟩
   have he:=zh (n:=n) (ps:=ps) (by omega)
   exact f9 rfl rfl (by rw [he];exact ⟨CoC.agg ⟨CoP.refl _,bz,trivial⟩,CoC.refl _,trivial⟩)
  ·
   have h1:=r1
   have h1:=bg r0 h1
   have h1:=of_decide_eq_false h1
   try simp only [ty] at h1
   refine aa ?_;refine a7 ?_;refine sx7 ?_;(iterate 3 refine qy ?_);refine a6 ?_;refine a8 _ rfl (fun r2=>?_) (fun r2=>?_)
   ·
    have h2:=of_decide_eq_true r2
    try simp only [ty] at h2
    refine sx7 ?_;refine qy ?_;refine s9 ?_;refine qy ?_;refine a6 ?_;refine ap ?_;refine ⟨.inr rfl, ?_⟩
    have he:=aei (n:=n) (ps:=ps) (by omega) (by omega)
    exact f9 rfl rfl (by rw [he];exact ⟨CoC.agg ⟨CoP.refl _,bz,trivial⟩,CoC.refl _,trivial⟩)
   ·
    have h2:=of_decide_eq_false r2
    try simp only [ty] at h2
    refine aa ?_;refine sx7 ?_;refine qy ?_;refine a6 ?_
    refine db 6 900 true 1 121 (lf rC (bj n ps)) (by decide) rfl (CoP.sl rfl (.inr rfl) (fun h=>h) (fun i j hi _=>absurd hi (Nat.not_lt_zero i))) (.inr rfl) rfl ?_;refine a7 ?_;refine sx7 ?_;refine qy ?_
    refine a6 ?_;refine ab ?_
    refine aj (ι:=Nat) ⟨[(0,some _),(1,some _),(4,some _)],[(0,some _)]⟩ ⟨⟨c9,c9,c9,trivial⟩,⟨u9,trivial⟩⟩ (fun i=>⟨[(6,some (.v (.one (.ref 900 i)))),(7,some (vI i))],[(900,some (.arr true 1 121 i (lf rC (bj n ps))))]⟩) (fun i=>i ≤ ps.length ∧ ∀ j,j < i → (ps.getD j default) >>> n.toNat = 0) (fun i=>ps.length - i) (0) (⟨Nat.zero_le _,cg⟩) ⟨⟨zy,zy,trivial⟩,⟨u9,trivial⟩⟩ ?_
    rintro i ⟨hi,hI⟩
    refine a7 ?_;refine sx7 ?_;(iterate 4 refine qy ?_);refine a6 ?_;refine a8 _ rfl (fun r3=>?_) (fun r3=>?_)
    ·
     have h3:=of_decide_eq_true r3
     try simp only [ty] at h3
     have hin:=b02 (n:=n) (i:=i) (by omega) (by omega) (by omega)
     refine aa ?_;refine a7 ?_;refine ab ?_;(iterate 2 refine a7 ?_);refine ax (E:=bf) ae ar [0,1,2,3,4,5,6,7] ?_;(iterate 5 refine qy ?_)
     refine rc rfl rfl rfl rfl rfl rfl kx (l6 n) (CoL.refl _) rfl rfl ?_;refine rc rfl rfl rfl rfl rfl rfl uf (z7 _ _) (CoL.refl _) rfl rfl ?_;refine qy ?_;refine a6 ?_;refine ⟨by kernel_rfl, ?_⟩
     refine a8 _ rfl (fun r4=>?_) (fun r4=>?_)
     ·
      have h4:=r4
      have h4:=av h4
      refine sx7 ?_;refine qy ?_;refine s9 ?_;refine qy ?_;refine a6 ?_;refine ap ?_;refine ⟨.inr rfl, ?_⟩
      have he:=abe (n:=n) (ps:=ps) (i:=i) (by omega) (by omega) (by omega) (fun e=>by have:=(aj8 (n:=n) (by omega) (by omega)).2 e;simp_all)
      exact f9 rfl rfl (by rw [he];exact ⟨CoC.agg ⟨CoP.refl _,bz,trivial⟩,CoC.refl _,trivial⟩)
     ·
      have h4:=r4
      have h4:=aw h4
      refine aa ?_;refine sx7 ?_;refine qy ?_;refine a6 ?_
      refine db 8 901 true 1 3 (lf zC (stR n i (ps.getD i default))) (by decide) rfl (CoP.sl rfl (.inr rfl) (fun h=>h) (fun i j hi _=>absurd hi (Nat.not_lt_zero i))) (.inr rfl) rfl ?_;refine a7 ?_;refine sx7 ?_
      refine qy ?_;refine a6 ?_;refine ab ?_
      refine aj (ι:=Nat) ⟨[(0,some _),(1,some _),(4,some _),(6,some _),(7,some _)],[(900,some _),(0,some _)]⟩ ⟨⟨c9,c9,c9,c9,c9,trivial⟩,⟨u9,u9,trivial⟩⟩ (fun k=>⟨[(8,some (.v (.one (.ref 901 k)))),(9,some (vI k))],[(901,some (.arr true 1 3 k (lf zC (stR n i (ps.getD i default)))))]⟩) (fun k=>k ≤ n.toNat) (fun k=>n.toNat - k) (0) (Nat.zero_le _) ⟨⟨zy,zy,trivial⟩,⟨u9,trivial⟩⟩ ?_
      rintro k hk
      refine a7 ?_;refine sx7 ?_;(iterate 3 refine qy ?_);refine a6 ?_;refine a8 _ rfl (fun r5=>?_) (fun r5=>?_)
      ·
       have h5:=of_decide_eq_true r5
       try simp only [ty] at h5
       refine aa ?_;refine a7 ?_;refine ab ?_;refine sx7 ?_;(iterate 5 refine qy ?_);refine rc rfl rfl rfl rfl rfl rfl tj (a89 (ps.getD i default) (k:Int)) (CoL.refl _) rfl rfl ?_;refine a6 ?_
       refine a8 _ rfl (fun r6=>?_) (fun r6=>?_)
       ·
        have h6:=r6
        refine gy ?_;(iterate 2 refine qy ?_);refine m9 1 ?_;refine ra 2 true rfl rfl rfl rfl rfl rfl ?_;refine qy ?_;refine a6 ?_;refine gy ?_;(iterate 3 refine qy ?_);refine a6 ?_
        refine ⟨k + 1, ?_, ?_, ?_⟩
        · show k + 1 ≤ _;omega
        · first | omega | (dsimp only;omega)
        · exact ⟨⟨zy,zy,c9,c9,c9,c9,c9,trivial⟩,⟨⟨_,rfl,(by first | exact (n5 (fun h=>h) (fun j hj=>by obtain rfl:j = 0:=(by omega);exact ag3 (by omega) (by assumption))) | exact (n5 (fun h=>h) (fun j hj=>by obtain rfl:j = 0:=(by omega);exact ahe (by omega) (by assumption))))⟩,u9,u9,trivial⟩⟩
       ·
        have h6:=r6
        refine gy ?_;(iterate 8 refine qy ?_);refine m9 3 ?_;refine ra 4 true rfl rfl rfl rfl rfl rfl ?_;refine qy ?_;refine a6 ?_;refine gy ?_;(iterate 3 refine qy ?_);refine a6 ?_
        refine ⟨k + 1, ?_, ?_, ?_⟩
        · show k + 1 ≤ _;omega
        · first | omega | (dsimp only;omega)
        · exact ⟨⟨zy,zy,c9,c9,c9,c9,c9,trivial⟩,⟨⟨_,rfl,(by first | exact (n5 (fun h=>h) (fun j hj=>by obtain rfl:j = 0:=(by omega);exact ag3 (by omega) (by assumption))) | exact (n5 (fun h=>h) (fun j hj=>by obtain rfl:j = 0:=(by omega);exact ahe (by omega) (by assumption))))⟩,u9,u9,trivial⟩⟩
      ·
       have h5:=of_decide_eq_false r5
       try simp only [ty] at h5
       refine ak ?_;refine bn 8 rfl rfl rfl ?_;refine gy ?_;(iterate 2 refine qy ?_);refine m9 5 ?_;refine ra 6 true rfl rfl rfl rfl rfl rfl ?_;refine qy ?_;refine a6 ?_;refine gy ?_
       (iterate 3 refine qy ?_);refine a6 ?_;refine ⟨i + 1, ?_, ?_, ?_⟩
       · exact ⟨by show i + 1 ≤ _;omega,br hI ((aj8 (by omega) (by omega)).1 (by first | assumption | exact of_decide_eq_true (by assumption)))⟩
       · first | omega | (dsimp only;omega)
       · exact ⟨⟨zy,zy,c9,c9,c9,trivial⟩,⟨⟨_,rfl,(n5 (fun h=>h) (fun j hj=>by obtain rfl:j = 0:=(by omega);exact ams (by omega) (by omega)))⟩,u9,trivial⟩⟩
    ·
     have h3:=of_decide_eq_false r3
     try simp only [ty] at h3
     obtain rfl:i = ps.length:=by omega
     refine ak ?_;refine a7 ?_;refine bn 6 rfl rfl rfl ?_;refine gy ?_;(iterate 2 refine qy ?_)
     refine rc rfl rfl rfl rfl rfl rfl a8k (a48 n (bj n ps) (by rw [mo];omega)) (⟨CoC.refl _,CoC.one (CoP.sl (by rw [mo]) (.inl rfl) (fun h=>h) fun a j ha hj=>CoP.refl _),trivial⟩) rfl rfl ?_
     refine s9 ?_;refine qy ?_;refine a6 ?_;refine ap ?_;refine ⟨.inr rfl, ?_⟩
     have he:=a4g (n:=n) (ps:=ps) (by omega) (by omega) (fun j hj=>hI j (by omega))
     exact f9 rfl rfl (by rw [he];exact CoL.refl _)
end Go.Hx
end
section
namespace Go.Hx
def Wel (n:Int) (l:List Rw):Prop:=∀ r,r ∈ l → r.length = n.toNat ∧ ∀ z,z ∈ r → 0 ≤ z
theorem x9 {l:List Rw} {i:Nat} (h:i < l.length):l.getD i default ∈ l:=by
 rw [List.getD_eq_getElem?_getD,List.getElem?_eq_getElem h]
 exact List.getElem_mem h
theorem tq {n:Int} {l:List Rw} (h:tok n l = true):Wel n l:=by
 obtain ⟨h0,h1,h2,h3⟩:=go h
 unfold tok at h
 rw [Bool.and_eq_true,decide_eq_true_iff,decide_eq_true_iff] at h
 rintro r hr
 obtain ⟨i,hi,rfl⟩:=List.getElem_of_mem hr
 have e:l.getD i default = l[i]:=by rw [List.getD_eq_getElem?_getD,List.getElem?_eq_getElem hi];rfl
 rw [← e]
 refine ⟨h3 i hi,fun z hz=>?_⟩
 have:=h.2 i hi
 unfold ll at this
 rw [Bool.and_eq_true,Bool.and_eq_true] at this
 have h4:=this.1.2
 rw [Bool.not_eq_true',List.any_eq_false] at h4
 have:=h4 z hz
 rw [decide_eq_true_iff] at this
 omega
theorem awb {n:Int} {l:List Rw} (h:tok n l = true):lx l:=by
 unfold tok at h
 rw [Bool.and_eq_true,decide_eq_true_iff,decide_eq_true_iff] at h
 have hs:∀ d i:Nat,i + d + 1 < l.length → ltZ (l.getD i default) (l.getD (i + d + 1) default) = true:=by
  intro d
  induction d with
  | zero =>
   intro i hi
   have:=h.2 (i + 1) hi
   unfold ll at this
   rw [Bool.and_eq_true,Bool.or_eq_true,decide_eq_true_iff] at this
   rcases this.2 with h5 | h5
   · omega
   · exact h5
  | succ d ih =>
   intro i hi
   have h1:=ih i (by omega)
   have:=h.2 (i + d + 1 + 1) (by omega)
   unfold ll at this
   rw [Bool.and_eq_true,Bool.or_eq_true,decide_eq_true_iff] at this
   rcases this.2 with h5 | h5
   · omega
   · exact iw h1 h5
 unfold lx
 rw [List.pairwise_iff_getElem]
 intro i j hi hj hij
 obtain ⟨d,rfl⟩:∃ d,j = i + d + 1:=⟨j - i - 1,by omega⟩
 have:=hs d i hj
 rwa [List.getD_eq_getElem?_getD,List.getElem?_eq_getElem hi,List.getD_eq_getElem?_getD,List.getElem?_eq_getElem hj] at this
theorem azb {n:Int} {l:List Rw} (h0:0 ≤ n) (h1:n ≤ 16) (h2:l.length ≤ 256) (hw:Wel n l) (ho:lx l):tok n l = true:=by
 refine ajq h0 h1 h2 fun i hi=>?_
 obtain ⟨h3,h4⟩:=hw _ (x9 hi)
 refine a0p (by omega) ?_ ?_
 · rw [List.any_eq_false]
   intro z hz
   have:=h4 z hz
   rw [decide_eq_true_iff]
   omega
 · rcases Nat.eq_zero_or_pos i with h | h
   · exact .inl h
   · right
     have:=List.pairwise_iff_getElem.1 ho (i - 1) i (by omega) hi (by omega)
     rw [List.getD_eq_getElem?_getD,List.getElem?_eq_getElem (by omega),List.getD_eq_getElem?_getD,List.getElem?_eq_getElem hi]
     exact this
theorem a0u {n:Int} {l:List Rw} (h0:0 ≤ n) (h1:n ≤ 16) (h2:(ay l).length ≤ 256) (hw:Wel n l):tok n (ay l) = true :=
 azb h0 h1 h2 (fun r hr=>hw r (ff.1 hr)) (gf l)
def inV (l:List Rw) (M:Nat → Nat → Int) (z:Int):Prop:=∃ i r,i < l.length ∧ r < (l.getD i default).length ∧ M i r = z
theorem agw {l:List Rw} {z:Int}:inV l (c5 l) z ↔ ∃ r,r ∈ l ∧ z ∈ r:=by
 constructor
 · rintro ⟨i,r,hi,hr,rfl⟩
   refine ⟨_,x9 hi, ?_⟩
   show (l.getD i default).getD r default ∈ _
   rw [List.getD_eq_getElem?_getD (l:=l.getD i default),List.getElem?_eq_getElem hr]
   exact List.getElem_mem hr
 · rintro ⟨r,hr,hz⟩
   obtain ⟨i,hi,rfl⟩:=List.getElem_of_mem hr
   obtain ⟨k,hk,rfl⟩:=List.getElem_of_mem hz
   have e:l.getD i default = l[i]:=by rw [List.getD_eq_getElem?_getD,List.getElem?_eq_getElem hi];rfl
   refine ⟨i,k,hi,by rw [e];exact hk, ?_⟩
   show (l.getD i default).getD k default = _
   rw [e,List.getD_eq_getElem?_getD,List.getElem?_eq_getElem hk]
   rfl
theorem a3p {l:List Rw} {M:Nat → Nat → Int} {z:Int}:(∃ r,r ∈ dj l M ∧ z ∈ r) ↔ inV l M z:=by
 constructor
 · rintro ⟨r,hr,hz⟩
   unfold dj at hr
   rw [List.mem_map] at hr
   obtain ⟨i,hi,rfl⟩:=hr
   rw [List.mem_map] at hz
   obtain ⟨k,hk,rfl⟩:=hz
   exact ⟨i,k,List.mem_range.1 hi,List.mem_range.1 hk,rfl⟩
 · rintro ⟨i,k,hi,hk,rfl⟩
   refine ⟨(List.range (l.getD i default).length).map (M i), ?_,List.mem_map.2 ⟨k,List.mem_range.2 hk,rfl⟩⟩
   unfold dj
   exact List.mem_map.2 ⟨i,List.mem_range.2 hi,rfl⟩
section
variable {l:List Rw} {a b:Nat} (ha:a < l.length) (hb:b < l.length)
theorem aji (x y:Int):loI x y = x ∨ loI x y = y:=by unfold loI;split <;> simp
theorem at4 (x y:Int):hiI x y = x ∨ hiI x y = y:=by unfold hiI;split <;> simp
include ha hb in
theorem b18 {M:Nat → Nat → Int} {j:Nat} (hja:j < (l.getD a default).length) (hjb:j < (l.getD b default).length) {z:Int} (h:inV l (eqM M a b j) z):inV l M z:=by
 obtain ⟨i,r,hi,hr,he⟩:=h
 unfold eqM at he
 split at he
 · rcases aji (M a j) (M b j) with h | h
   · exact ⟨a,j,ha,hja,by rw [← he,h]⟩
   · exact ⟨b,j,hb,hjb,by rw [← he,h]⟩
 · exact ⟨i,r,hi,hr,he⟩
include ha hb in
theorem adt:∀ {js:List Nat} {M:Nat → Nat → Int},(∀ j,j ∈ js → j < (l.getD a default).length ∧ j < (l.getD b default).length) → ∀ {z:Int},inV l (eqMs M a b js) z → inV l M z
 | [],_,_,_,h=>h
 | j :: js,M,hj,z,h=>b18 ha hb (hj j (by simp)).1 (hj j (by simp)).2 (adt (js:=js) (M:=eqM M a b j) (fun k hk=>hj k (by simp [hk])) h)
include ha hb in
theorem a9o:∀ {js:List Nat} {M:Nat → Nat → Int},(∀ j,j ∈ js → j < (l.getD a default).length ∧ j < (l.getD b default).length) → (∃ j,j ∈ js ∧ ¬ M a j = M b j) → ∃ z,inV l M z ∧ ¬ inV l (eqMs M a b js) z
 | [],_,_,⟨_,h,_⟩=>by simp at h
 | j :: js,M,hj,⟨k,hk,hne⟩=>by
  by_cases e:M a j = M b j
  · have e2:eqMs M a b (j :: js) = eqMs M a b js:=by
     show eqMs (eqM M a b j) a b js = _
     rw [pn e]
    rw [e2]
    refine a9o (fun k hk=>hj k (by simp [hk])) ⟨k, ?_,hne⟩
    rcases List.mem_cons.1 hk with h | h
    · subst h;exact absurd e hne
    · exact h
  · refine ⟨hiI (M a j) (M b j), ?_,fun h=>?_⟩
    · rcases at4 (M a j) (M b j) with h | h
      · exact ⟨a,j,ha,(hj j (by simp)).1,h.symm⟩
      · exact ⟨b,j,hb,(hj j (by simp)).2,h.symm⟩
    · obtain ⟨i,r,hi,hr,he⟩:=adt ha hb (fun k hk=>hj k (by simp [hk])) (show inV l (eqMs (eqM M a b j) a b js) _ from h)
      unfold eqM at he
      split at he
      · unfold hiI loI at he
        split at he <;> split at he <;> omega
      · rename_i h2
        exact h2 he
end
def a85 (Z:List Int) (l:List Rw):Nat:=Z.countP fun z=>l.any fun r=>decide (z ∈ r)
def muC (Z:List Int) (l:List Rw):Nat:=a85 Z l * 300 + (300 - l.length)
def Cov (Z:List Int) (l:List Rw):Prop:=∀ r,r ∈ l → ∀ z,z ∈ r → z ∈ Z
theorem te {l:List Rw} {z:Int}:(l.any fun r=>decide (z ∈ r)) = true ↔ ∃ r,r ∈ l ∧ z ∈ r:=by
 rw [List.any_eq_true]
 exact ⟨fun ⟨r,h,h2⟩=>⟨r,h,of_decide_eq_true h2⟩,fun ⟨r,h,h2⟩=>⟨r,h,decide_eq_true h2⟩⟩
theorem countP_lt' {p q:Int → Bool}:∀ {Z:List Int},(∀ z,p z = true → q z = true) → (∃ z,z ∈ Z ∧ q z = true ∧ p z = false) → Z.countP p < Z.countP q
 | [],_,⟨_,h,_⟩=>by simp at h
 | x :: Z,h,⟨z,hz,hq,hp⟩=>by
  have hm:Z.countP p ≤ Z.countP q:=List.countP_mono_left fun z _=>h z
  rw [List.countP_cons,List.countP_cons]
  rcases List.mem_cons.1 hz with rfl | hz
  · rw [hq,hp]
    simp only [if_true,Bool.false_eq_true,if_false]
    omega
  · have:=countP_lt' (Z:=Z) h ⟨z,hz,hq,hp⟩
    by_cases e:p x = true
    · rw [e,h x e];omega
    · rw [if_neg e];omega
theorem axt {Z:List Int} {l l':List Rw} (h:∀ z,(∃ r,r ∈ l' ∧ z ∈ r) → ∃ r,r ∈ l ∧ z ∈ r) (h2:∃ z,z ∈ Z ∧ (∃ r,r ∈ l ∧ z ∈ r) ∧ ¬ ∃ r,r ∈ l' ∧ z ∈ r):a85 Z l' < a85 Z l:=by
 refine countP_lt' (fun z hz=>te.2 (h z (te.1 hz))) ?_
 obtain ⟨z,h3,h4,h5⟩:=h2
 exact ⟨z,h3,te.2 h4,by rw [Bool.eq_false_iff];exact fun e=>h5 (te.1 e)⟩
theorem aud {Z:List Int} {l l':List Rw} (h:∀ z,(∃ r,r ∈ l' ∧ z ∈ r) → ∃ r,r ∈ l ∧ z ∈ r):a85 Z l' ≤ a85 Z l :=
 List.countP_mono_left fun z _ hz=>te.2 (h z (te.1 hz))
end Go.Hx
end
section
namespace Go.Hx
theorem ae7 {r:Rw}:∀ {l:List Rw},r ∉ l → (ic r l).length = l.length + 1
 | [],_=>rfl
 | y :: l,h=>by
  unfold ic
  have h1:¬ r = y:=fun e=>h (by rw [e];simp)
  have h2:=ae7 (l:=l) (r:=r) fun e=>h (by simp [e])
  rw [if_neg h1]
  split
  · simp
  · simp only [List.length_cons];omega
theorem ald {l:List Rw} {r:Rw} (ho:lx l):ay (l ++ [r]) = ic r l:=by
 have e:l = ay l:=adz ho fun _=>Iff.rfl
 have:ay (l ++ [r]) = ic r (ay l):=by
  unfold ay
  rw [List.foldl_append]
  rfl
 rw [this,← e]
section
variable {n:Int} {l:List Rw} {a b:Nat} {x:Fd}
abbrev fdL (l:List Rw) (a b:Nat) (x:Fd):List Rw:=ay (dj l (eqMs (c5 l) a b (az x.rhs)))
theorem aik (hT:tok n l = true) (hu:inU n x = true) (ha:a < l.length) (hb:b < l.length) (hs:dx l x a b = true) :
 fdE n l a b x = (n,fdL l a b x,0) ∧ tok n (fdL l a b x) = true ∧ (∀ z,(∃ r,r ∈ fdL l a b x ∧ z ∈ r) → ∃ r,r ∈ l ∧ z ∈ r) ∧ ∀ Z,Cov Z l → muC Z (fdL l a b x) < muC Z l:=by
 obtain ⟨h0,h1,h2,h3⟩:=go hT
 have hw:=tq hT
 unfold dx at hs
 rw [Bool.and_eq_true,Bool.not_eq_true'] at hs
 obtain ⟨hl,hr⟩:=hs
 have hj:∀ j,j ∈ az x.rhs → j < (l.getD a default).length ∧ j < (l.getD b default).length:=fun j hj=>by
  have:=a1w h0 h1 hu hj
  exact ⟨by rw [h3 a ha];exact this,by rw [h3 b hb];exact this⟩
 have hV:∀ z,(∃ r,r ∈ fdL l a b x ∧ z ∈ r) → ∃ r,r ∈ l ∧ z ∈ r:=fun z ⟨r,hr,hz⟩=>agw.1 (adt ha hb hj (a3p.1 ⟨r,ff.1 hr,hz⟩))
 have hlen:(fdL l a b x).length ≤ l.length:=Nat.le_trans (vk _) (Nat.le_of_eq (jn _ _))
 refine ⟨if_pos hl,a0u h0 h1 (Nat.le_trans hlen h2) (fun r hr=>⟨?_,fun z hz=>?_⟩),hV,fun Z hZ=>?_⟩
 · unfold dj at hr
   rw [List.mem_map] at hr
   obtain ⟨i,hi,rfl⟩:=hr
   rw [List.length_map,List.length_range]
   exact h3 i (List.mem_range.1 hi)
 · obtain ⟨r2,h5,h6⟩:=hV z ⟨r,ff.2 hr,hz⟩
   exact (hw r2 h5).2 z h6
 · have hne:∃ j,j ∈ az x.rhs ∧ ¬ c5 l a j = c5 l b j:=by
    apply Classical.byContradiction
    intro hno
    rw [y8] at hr
    · cases hr
    · intro i hi hh
      apply Classical.byContradiction
      intro e
      have hi2:i < 32:=by
       have:=h3 a ha
       omega
      rw [cj hi2] at hh
      exact hno ⟨i,jh.2 ⟨hi2,hh⟩,e⟩
   obtain ⟨z,hz1,hz2⟩:=a9o ha hb hj hne
   have hz3:=agw.1 hz1
   have:=axt (Z:=Z) hV ⟨z,by obtain ⟨r,h7,h8⟩:=hz3;exact hZ r h7 z h8,hz3,fun ⟨r,h7,h8⟩=>hz2 (a3p.1 ⟨r,ff.1 h7,h8⟩)⟩
   unfold muC
   omega
abbrev mvL (l:List Rw) (a b:Nat) (x:Fd):List Rw:=ay (l ++ [d5 (l.getD a default) (l.getD b default) (x.lhs ||| x.rhs)])
theorem b1t (hT:tok n l = true) (ha:a < l.length) (hb:b < l.length) (hs:ek l x a b = true) :
 mvE n l a b x = (0,[],3) ∨ (mvE n l a b x = (n,mvL l a b x,0) ∧ tok n (mvL l a b x) = true ∧ (∀ z,(∃ r,r ∈ mvL l a b x ∧ z ∈ r) → ∃ r,r ∈ l ∧ z ∈ r) ∧ ∀ Z,Cov Z l → muC Z (mvL l a b x) < muC Z l):=by
 obtain ⟨h0,h1,h2,h3⟩:=go hT
 have hw:=tq hT
 unfold ek at hs
 rw [Bool.and_eq_true,Bool.not_eq_true'] at hs
 obtain ⟨hl,hr⟩:=hs
 have hno:=agh hr
 have hE:mvE n l a b x = qq n l (d5 (l.getD a default) (l.getD b default) (x.lhs ||| x.rhs)):=if_pos hl
 by_cases hbig:256 < (mvL l a b x).length
 · left
   rw [hE]
   exact if_pos hbig
 · right
   have hmem:∀ z,z ∈ d5 (l.getD a default) (l.getD b default) (x.lhs ||| x.rhs) → z ∈ l.getD a default ∨ z ∈ l.getD b default:=fun z hz=>by
    unfold d5 at hz
    rw [List.mem_map] at hz
    obtain ⟨i,hi,rfl⟩:=hz
    have hi:=List.mem_range.1 hi
    have hi2:i < (l.getD a default).length:=by rw [h3 a ha,← h3 b hb];exact hi
    split
    · left
      rw [List.getD_eq_getElem?_getD (l:=l.getD a default),List.getElem?_eq_getElem hi2]
      exact List.getElem_mem hi2
    · right
      rw [List.getD_eq_getElem?_getD (l:=l.getD b default),List.getElem?_eq_getElem hi]
      exact List.getElem_mem hi
   have hV:∀ z,(∃ r,r ∈ mvL l a b x ∧ z ∈ r) → ∃ r,r ∈ l ∧ z ∈ r:=fun z ⟨r,hr,hz⟩=>by
    rcases List.mem_append.1 (ff.1 hr) with h | h
    · exact ⟨r,h,hz⟩
    · rw [List.mem_singleton] at h
      subst h
      rcases hmem z hz with h | h
      · exact ⟨_,x9 ha,h⟩
      · exact ⟨_,x9 hb,h⟩
   refine ⟨by rw [hE];exact if_neg hbig,a0u h0 h1 (Nat.le_of_not_lt fun e=>hbig e) (fun r hr=>⟨?_,fun z hz=>?_⟩),hV,fun Z hZ=>?_⟩
   · rcases List.mem_append.1 hr with h | h
     · exact (hw r h).1
     · rw [List.mem_singleton] at h
       subst h
       rw [ju]
       exact h3 b hb
   · obtain ⟨r2,h5,h6⟩:=hV z ⟨r,ff.2 hr,hz⟩
     exact (hw r2 h5).2 z h6
   · have e:(mvL l a b x).length = l.length + 1:=by
      show (ay _).length = _
      rw [ald (awb hT),ae7 hno]
     have:=aud (Z:=Z) hV
     unfold muC
     omega
end
theorem ak4 {α:Type} {f:Nat → Option α}:∀ {n:Nat} {x:α},(List.range n).findSome? f = some x → ∃ k,k < n ∧ f k = some x:=fun {n x} h=>by
 obtain ⟨k,hk,e⟩:=List.exists_of_findSome?_eq_some h
 exact ⟨k,List.mem_range.1 hk,e⟩
theorem yn {P:Nat → Nat → Nat → Bool} {I L i a b:Nat} (h:eo P I L = some (i,a,b)):i < I ∧ a < L ∧ b < L ∧ P i a b = true:=by
 obtain ⟨i',hi,h⟩:=ak4 h
 obtain ⟨a',ha,h⟩:=ak4 h
 rw [Option.map_eq_some_iff] at h
 obtain ⟨b',hb,e⟩:=h
 simp only [Prod.mk.injEq] at e
 obtain ⟨rfl,rfl,rfl⟩:=e
 exact ⟨hi,ha,List.mem_range.1 (List.mem_of_find?_eq_some hb),by simpa using List.find?_some hb⟩
def w7 (l:List Rw) (p m:List Fd) (s:St):Prop:=s.2.2.1 < l.length ∧ s.2.2.2 < l.length ∧ ((s.1 = false ∧ s.2.1 < p.length ∧ dx l (p.getD s.2.1 default) s.2.2.1 s.2.2.2 = true) ∨ (s.1 = true ∧ s.2.1 < m.length ∧ ek l (m.getD s.2.1 default) s.2.2.1 s.2.2.2 = true))
theorem a2v {l:List Rw} {p m:List Fd} {s:St} (h:dp l p m = some s):w7 l p m s:=by
 unfold dp at h
 split at h
 · rename_i x e
   simp only [Option.some.injEq] at h
   subst h
   obtain ⟨i,a,b⟩:=x
   obtain ⟨h1,h2,h3,h4⟩:=yn e
   exact ⟨h2,h3, .inl ⟨rfl,h1,h4⟩⟩
 · rw [Option.map_eq_some_iff] at h
   obtain ⟨⟨i,a,b⟩,e,rfl⟩:=h
   obtain ⟨h1,h2,h3,h4⟩:=yn e
   exact ⟨h2,h3, .inr ⟨rfl,h1,h4⟩⟩
def dn (n:Int) (l:List Rw) (p m:List Fd) (s:St):Int × List Rw × Int:=if s.1 = true then mvE n l s.2.2.1 s.2.2.2 (m.getD s.2.1 default) else fdE n l s.2.2.1 s.2.2.2 (p.getD s.2.1 default)
theorem aeq {n:Int} {l:List Rw} {p m:List Fd} {s:St} (hT:tok n l = true) (hp:p.all (inU n) = true) (h:w7 l p m s) :
 dn n l p m s = (0,[],3) ∨ ∃ l',dn n l p m s = (n,l',0) ∧ tok n l' = true ∧ (∀ Z,Cov Z l → Cov Z l' ∧ muC Z l' < muC Z l):=by
 obtain ⟨ha,hb,h | h⟩:=h
 · obtain ⟨h1,h2,h3⟩:=h
   have hu:inU n (p.getD s.2.1 default) = true:=List.all_eq_true.1 hp _ (by rw [List.getD_eq_getElem?_getD,List.getElem?_eq_getElem h2];exact List.getElem_mem h2)
   obtain ⟨e,h4,h5,h6⟩:=aik hT hu ha hb h3
   exact .inr ⟨_,by unfold dn;rw [if_neg (by rw [h1];decide)];exact e,h4,fun Z hZ=>⟨fun r hr z hz=>by obtain ⟨r2,h7,h8⟩:=h5 z ⟨r,hr,hz⟩;exact hZ r2 h7 z h8,h6 Z hZ⟩⟩
 · obtain ⟨h1,h2,h3⟩:=h
   rcases b1t hT ha hb h3 with e | ⟨e,h4,h5,h6⟩
   · exact .inl (by unfold dn;rw [if_pos h1];exact e)
   · exact .inr ⟨_,by unfold dn;rw [if_pos h1];exact e,h4,fun Z hZ=>⟨fun r hr z hz=>by obtain ⟨r2,h7,h8⟩:=h5 z ⟨r,hr,hz⟩;exact hZ r2 h7 z h8,h6 Z hZ⟩⟩
def fv:Nat → Int → List Rw → List Fd → List Fd → List St → List St × (Int × List Rw) × Int
 | 0,_,_,_,_,_=>([],(0,[]),0)
 | f + 1,n,l,p,m,acc =>
  match dp l p m with
  | none=>(acc,(n,l),0)
  | some s=>match dn n l p m s with
   | (n',l',e)=>if e = 0 then fv f n' l' p m (acc ++ [s]) else ([],(0,[]),e)
theorem a6j {f:Nat} {n:Int} {l:List Rw} {p m:List Fd} {acc:List St} (hf:0 < f) (h:dp l p m = none):fv f n l p m acc = (acc,(n,l),0):=by
 obtain ⟨g,rfl⟩:∃ g,f = g + 1:=⟨f - 1,by omega⟩
 unfold fv
 rw [h]
theorem a5s {f:Nat} {n:Int} {l:List Rw} {p m:List Fd} {acc:List St} {s:St} (hf:0 < f) (h:dp l p m = some s) {n' e:Int} {l':List Rw} (h2:dn n l p m s = (n',l',e)) (he:¬ e = 0):fv f n l p m acc = ([],(0,[]),e):=by
 obtain ⟨g,rfl⟩:∃ g,f = g + 1:=⟨f - 1,by omega⟩
 unfold fv
 rw [h]
 simp only
 rw [h2]
 simp only
 rw [if_neg he]
theorem wq {f:Nat} {n:Int} {l:List Rw} {p m:List Fd} {acc:List St} {s:St} (hf:0 < f) (h:dp l p m = some s) {n':Int} {l':List Rw} (h2:dn n l p m s = (n',l',0)):fv f n l p m acc = fv (f - 1) n' l' p m (acc ++ [s]):=by
 obtain ⟨g,rfl⟩:∃ g,f = g + 1:=⟨f - 1,by omega⟩
 rw [Nat.add_sub_cancel]
 conv=>lhs;unfold fv
 rw [h]
 simp only
 rw [h2]
 simp only
 rw [if_pos trivial]
end Go.Hx
end
section
namespace Go.Hx
open Go.Proofs
theorem b12 (n:Int) (l:List Rw) (p m:List Fd) (s:St) (hT:tok n l = true) (hp:p.all (inU n) = true) (h:w7 l p m s) :
 ai Tryz.prog 183 [pT n l,pP (fdl p),pP (fdl m),s.pc] (ao [pT (dn n l p m s).1 (dn n l p m s).2.1,pI (dn n l p m s).2.2]):=by
 obtain ⟨mu,i,a,b⟩:=s
 obtain ⟨ha,hb,h | h⟩:=h
 · obtain ⟨h1,h2,h3⟩:=h
   cases h1
   exact axy n l p m i a b hT ha hb h2 (List.all_eq_true.1 hp _ (by rw [List.getD_eq_getElem?_getD,List.getElem?_eq_getElem h2];exact List.getElem_mem h2))
 · obtain ⟨h1,h2,h3⟩:=h
   cases h1
   exact avb n l p m i a b hT ha hb h2
abbrev St.c (s:St):Nat → PV:=fun j=>[.raw (.bool s.1), .raw (.int .i64 (s.2.1:Int)), .raw (.int .i64 (s.2.2.1:Int)), .raw (.int .i64 (s.2.2.2:Int))].getD j .any
abbrev stl (l:List St):PV:=psl 4 St.c l
abbrev ckE (n:Int) (l:List Rw) (p m:List Fd):Int:=if tok n l = true then c8 n p m else 1
theorem aok {n:Int} {l:List Rw} {p m:List Fd} (h:ckE n l p m = 0):tok n l = true ∧ c8 n p m = 0 ∧ p.all (inU n) = true:=by
 unfold ckE at h
 by_cases e:tok n l = true
 · rw [if_pos e] at h
   exact ⟨e,h,(k7 h).2.2.2.1⟩
 · rw [if_neg e] at h;omega
def gi (F:Nat) (n:Int) (l:List Rw) (p m:List Fd):List St × (Int × List Rw) × Int:=if ckE n l p m = 0 then fv F n l p m [] else ([],(0,[]),ckE n l p m)
theorem a3y {F:Nat} {n:Int} {l:List Rw} {p m:List Fd} (h:¬ ckE n l p m = 0):gi F n l p m = ([],(0,[]),ckE n l p m):=if_neg h
theorem qi {F:Nat} {n:Int} {l:List Rw} {p m:List Fd} (h:ckE n l p m = 0):gi F n l p m = fv F n l p m []:=if_pos h
theorem ah8 {α:Type} {o:Option α} (h:o.isSome = false):o = none:=by cases o <;> simp_all
theorem ahv {α:Type} {o:Option α} (d:α) (h:o.isSome = true):o = some (o.getD d):=by cases o <;> simp_all
theorem ad5 (l:List Rw):Cov l.flatten l:=fun r hr z hz=>List.mem_flatten.2 ⟨r,hr,hz⟩
structure StI (F:Nat) (n:Int) (l:List Rw) (p m:List Fd) (x:Nat × List Rw × List St):Prop where
 t:tok n x.2.1 = true
 c:Cov l.flatten x.2.1
 u:muC l.flatten x.2.1 < x.1
 b:x.2.2.length + x.1 ≤ F
 e:fv x.1 n x.2.1 p m x.2.2 = fv F n l p m []
theorem StI.start {F:Nat} {n:Int} {l:List Rw} {p m:List Fd} (hT:tok n l = true) (hF:muC l.flatten l < F):StI F n l p m (F,l,[]):=⟨hT,ad5 l,hF,by simp,rfl⟩
theorem StI.next {F:Nat} {n:Int} {l:List Rw} {p m:List Fd} {x:Nat × List Rw × List St} {s:St} (h:StI F n l p m x) (hp:p.all (inU n) = true) (hS:dp x.2.1 p m = some s) (he:(dn n x.2.1 p m s).2.2 = 0) :
 (dn n x.2.1 p m s).1 = n ∧ StI F n l p m (x.1 - 1,(dn n x.2.1 p m s).2.1,x.2.2 ++ [s]):=by
 have hu:=h.u
 have hb:=h.b
 rcases aeq h.t hp (a2v hS) with e | ⟨l',e,h1,h2⟩
 · rw [e] at he;exact absurd he (by decide)
 · have hq:=h2 _ h.c
   refine ⟨by rw [e], ?_⟩
   rw [e]
   exact ⟨h1,hq.1,by show muC _ l' < _;omega,by simp only [List.length_append,List.length_singleton];omega,by rw [← h.e,wq (by omega) hS e]⟩
theorem StI.fin {F:Nat} {n:Int} {l:List Rw} {p m:List Fd} {x:Nat × List Rw × List St} (h:StI F n l p m x) (hS:dp x.2.1 p m = none):fv F n l p m [] = (x.2.2,(n,x.2.1),0):=by
 have hu:=h.u
 rw [← h.e,a6j (by omega) hS]
theorem StI.err {F:Nat} {n:Int} {l:List Rw} {p m:List Fd} {x:Nat × List Rw × List St} {s:St} (h:StI F n l p m x) (hS:dp x.2.1 p m = some s) (he:¬ (dn n x.2.1 p m s).2.2 = 0):fv F n l p m [] = ([],(0,[]),(dn n x.2.1 p m s).2.2):=by
 have hu:=h.u
 rw [← h.e]
 exact a5s (by omega) hS rfl he
end Go.Hx
end
section
namespace Go.Hx
open Go.Proofs
set_option maxRecDepth 100000
theorem auh:goodFn Tryz.prog 149:=⟨Tryz.f149,Tryz.func149,by kernel_rfl,by kernel_rfl⟩
theorem ayg (F:Nat) (n:Int) (l:List Rw) (p m:List Fd) (hF:tok n l = true → muC l.flatten l < F) (hFb:F ≤ 4000000000):ai Tryz.prog 149 [pT n l,pP (fdl p),pP (fdl m)] (ao [pP (stl (gi F n l p m).1),pT (gi F n l p m).2.1.1 (gi F n l p m).2.1.2,pI (gi F n l p m).2.2]):=by
 refine ah (nt:=53) ae Tryz.func149 rfl rfl l9 ?_;refine sx7 ?_;refine m9 0 ?_;refine qy ?_;refine m9 1 ?_;refine qy ?_;refine a6 ?_;refine a7 ?_;refine sx7 ?_;(iterate 3 refine qy ?_)
 refine rc rfl rfl rfl rfl rfl rfl aun (apy n l p m) (CoL.refl _) rfl rfl ?_;refine qy ?_;refine a6 ?_;refine sx7 ?_;(iterate 2 refine qy ?_);refine a6 ?_;refine a8 _ rfl (fun r0=>?_) (fun r0=>?_)
 ·
  have h0:=r0
  have h0:=of_decide_eq_false (av h0)
  try simp only [ty] at h0
  refine sx7 ?_;(iterate 3 refine qy ?_);refine s9 ?_;refine qy ?_;refine a6 ?_;refine ap ?_;refine ⟨.inr rfl, ?_⟩
  have he:=a3y (F:=F) (n:=n) (l:=l) (p:=p) (m:=m) (by assumption)
  exact f9 rfl rfl (by rw [he];exact ⟨CoC.one (CoP.sl rfl (.inr rfl) (fun _=>rfl) (fun i j hi _=>absurd hi (Nat.not_lt_zero i))),CoC.agg ⟨CoP.refl _,bz,trivial⟩,CoC.refl _,trivial⟩)
 ·
  have h0:=r0
  have h0:=of_decide_eq_true (aw h0)
  try simp only [ty] at h0
  have hck:ckE n l p m = 0:=by assumption
  obtain ⟨hT,hbe,hpa⟩:=aok hck
  obtain ⟨hn0,hn16,hl256,hrow⟩:=go hT
  have hbig:∀ i,i < l.length → (l.getD i default).length ≤ 17592186044416:=fun i hi=>by rw [hrow i hi];omega
  refine aa ?_;refine sx7 ?_;refine qy ?_;refine rc rfl rfl rfl rfl rfl rfl a7z (aqy n l hbig (by omega)) (CoL.refl _) rfl rfl ?_;refine s9 ?_;refine a6 ?_;refine sx7 ?_;refine qy ?_;refine a6 ?_
  refine db 10 900 true 4 155 (lf St.c []) (by decide) rfl (CoP.sl rfl (.inr rfl) (fun h=>h) (fun i j hi _=>absurd hi (Nat.not_lt_zero i))) (.inr rfl) rfl ?_;refine ab ?_
  refine aj (ι:=Nat × List Rw × List St) ⟨[(1,some _),(2,some _),(3,some _),(7,some _)],[(1,some _)]⟩ ⟨⟨c9,c9,c9,c9,trivial⟩,⟨u9,trivial⟩⟩ (fun x=>⟨[(10,some (.v (.one (.ref 900 x.2.2.length))))],[(0,some (.box [.p (.raw (.int .i64 n)), .p (rl x.2.1)])),(900,some (.arr true 4 155 x.2.2.length (lf St.c x.2.2)))]⟩) (fun x=>StI F n l p m x) (fun x=>x.1) ((F,l,[])) (StI.start hT (hF hT)) ⟨⟨zy,trivial⟩,⟨u9,u9,trivial⟩⟩ ?_
  rintro x hX
  have hXu:=hX.u
  have hXb:=hX.b
  refine ab ?_;refine sx7 ?_;(iterate 3 refine qy ?_);refine rc rfl rfl rfl rfl rfl rfl avc (b07 n x.2.1 p m hX.t) (CoL.refl _) rfl rfl ?_;(iterate 3 refine qy ?_);refine m9 2 ?_;refine s9 ?_;refine qy ?_
  refine a6 ?_;refine a7 ?_;refine sx7 ?_;(iterate 2 refine qy ?_);refine a6 ?_;refine a8 _ rfl (fun r1=>?_) (fun r1=>?_)
  ·
   have h1:=r1
   have h1:=av h1
   have hS:=ah8 (by simpa using h1)
   refine a7 ?_;refine ax (E:=bf) ae ar [0,1,2,3,4] ?_;(iterate 3 refine qy ?_);refine s9 ?_;refine qy ?_;refine a6 ?_;refine ⟨by kernel_rfl, ?_⟩;refine bn 6 rfl rfl rfl ?_
   refine ap ?_;refine ⟨.inr rfl, ?_⟩
   have he:=(qi hck).trans (hX.fin hS)
   exact f9 rfl rfl (by rw [he];exact CoL.refl _)
  ·
   have h1:=r1
   have h1:=aw h1
   have hS:=ahv (false,0,0,0) (by simpa using h1)
   refine aa ?_;refine sx7 ?_;(iterate 4 refine qy ?_);refine rc rfl rfl rfl rfl rfl rfl awj (b12 n x.2.1 p m ((dp x.2.1 p m).getD (false,0,0,0)) hX.t hpa (a2v hS)) (CoL.refl _) rfl rfl ?_
   (iterate 3 refine qy ?_);refine m9 3 ?_;refine s9 ?_;refine qy ?_;refine a6 ?_;refine a7 ?_;refine sx7 ?_;(iterate 2 refine qy ?_);refine a6 ?_;refine a8 _ rfl (fun r2=>?_) (fun r2=>?_)
   ·
    have h2:=r2
    have h2:=of_decide_eq_false (av h2)
    try simp only [ty] at h2
    refine sx7 ?_;(iterate 3 refine qy ?_);refine s9 ?_;refine qy ?_;refine a6 ?_;refine ap ?_;refine ⟨.inr rfl, ?_⟩
    have he:=(qi hck).trans (hX.err hS (by assumption))
    exact f9 rfl rfl (by rw [he];exact ⟨CoC.one (CoP.sl rfl (.inr rfl) (fun _=>rfl) (fun i j hi _=>absurd hi (Nat.not_lt_zero i))),CoC.agg ⟨CoP.refl _,bz,trivial⟩,CoC.refl _,trivial⟩)
   ·
    have h2:=r2
    have h2:=of_decide_eq_true (aw h2)
    try simp only [ty] at h2
    have hnx:=hX.next hpa hS (by assumption)
    refine aa ?_;refine ax (E:=bf) ae ar [0,1,2,3,4,5,6] ?_;(iterate 2 refine qy ?_);refine m9 4 ?_;refine ra 5 true rfl rfl rfl rfl rfl rfl ?_;(iterate 2 refine qy ?_);refine s9 ?_
    refine a6 ?_;refine ⟨by kernel_rfl, ?_⟩;refine ⟨(x.1 - 1,(dn n x.2.1 p m ((dp x.2.1 p m).getD (false,0,0,0))).2.1,x.2.2 ++ [((dp x.2.1 p m).getD (false,0,0,0))]), ?_, ?_, ?_⟩
    · exact hnx.2
    · show x.1 - 1 < x.1
      omega
    · exact ⟨⟨⟨_,rfl,(d7 rfl)⟩,c9,c9,c9,c9,trivial⟩,⟨⟨_,rfl,⟨CoP.of_eq (by rw [hnx.1]),CoH.refl _,trivial⟩⟩,⟨_,rfl,(a1y rfl (fun j hj=>by match j,hj with | 0,_=>exact CoP.refl _ | 1,_=>exact CoP.refl _ | 2,_=>exact CoP.refl _ | 3,_=>exact CoP.refl _) rfl)⟩,u9,trivial⟩⟩
end Go.Hx
end
section
namespace Go.Hx
theorem abh:∀ {l:List Rw},(∀ r,r ∈ l → r.length ≤ 16) → l.flatten.length ≤ 16 * l.length
 | [],_=>by simp
 | r :: l,h=>by
  have h1:=h r (by simp)
  have h2:=abh (l:=l) fun r hr=>h r (by simp [hr])
  simp only [List.flatten_cons,List.length_append,List.length_cons]
  omega
abbrev FU:Nat:=1300000
theorem aek {n:Int} {l:List Rw} (h:tok n l = true):muC l.flatten l < FU:=by
 obtain ⟨h0,h1,h2,h3⟩:=go h
 have h4:=abh (l:=l) fun r hr=>by have:=(tq h r hr).1;omega
 have h5:a85 l.flatten l ≤ l.flatten.length:=List.countP_le_length
 unfold muC
 show _ < 1300000
 omega
theorem ayp {n:Int} {i:Nat} {p:AS} {k a N:Nat} (h:c4 p (k:Int) = true) (hN:N = n.toNat) (ha:a = k) :
 CoO (.arr true 1 3 N (dw (lf zC (stT n i p k)) a 0 [.raw (.int .i64 (k:Int))])) (.arr true 1 3 N (lf zC (stT n i p (k + 1)))):=by
 subst ha
 refine ⟨fun h=>h,rfl,rfl,rfl,fun c j hc hj=>CoP.of_eq ?_⟩
 obtain rfl:j = 0:=by omega
 show _ = PV.raw (.int .i64 ((stT n i p (a + 1)).getD c default))
 rw [a4u c (by omega)]
 unfold dw
 by_cases e:c = a
 · rw [if_pos ⟨e,by omega,by simp⟩,if_pos e]
   unfold stV
   rw [if_pos h]
   rfl
 · rw [if_neg (fun x=>e x.1),if_neg e]
   rfl
theorem amk {k:Nat} (h:k < 32):c4 (gq 32) (k:Int) = true:=by
 rw [cj h,mj 32 k h]
 exact decide_eq_true h
theorem ani {n:Int} {k:Nat} (h1:n ≤ 16) (hk:n.toNat ≤ k):stT n 0 (gq 32) k = ct n:=by
 rw [ag9 _ _ _ hk]
 unfold stR ct
 refine List.map_congr_left fun c hc=>?_
 have:=List.mem_range.1 hc
 unfold stV
 rw [if_pos (amk (by omega))]
theorem am1 {n:Int} {k:Nat} (h1:n ≤ 16) (hk:n.toNat ≤ k):CoC (.one (.sl n.toNat 1 false (lf zC (stT n 0 (gq 32) k)))) (pZ (ct n)):=by
 rw [ani h1 hk]
 exact ajw (yt n)
abbrev vb (n:Int) (x:Fd):List AS:=[x.lhs ||| x.rhs,x.lhs ||| (af n &&& ~~~x.rhs)]
def b4b (n:Int) (p m:List Fd) (x:Fd):Bool × Int :=
 if c8 n p m = 0 then
  if inU n x = true then
   if (fb n (vb n x)).2.2 = 0 then
    if (gi FU (fb n (vb n x)).1 (fb n (vb n x)).2.1 p m).2.2 = 0 then ((gi FU (fb n (vb n x)).1 (fb n (vb n x)).2.1 p m).2.1.2.any (fun r=>decide (r = ct n)),0)
    else (false,(gi FU (fb n (vb n x)).1 (fb n (vb n x)).2.1 p m).2.2)
   else (false,(fb n (vb n x)).2.2)
  else (false,1)
 else (false,c8 n p m)
end Go.Hx
end
section
namespace Go.Hx
theorem ay2 {r:Rw} {g f:Nat → Nat → PV} (hf:∀ i j,f i j = lf zC r i j):CoP (.sl (0 + r.length) 1 false (ef 0 g f)) (zl r) :=
 CoP.sl (Nat.zero_add _).symm (.inl rfl) (fun h=>h) fun i j hi hj=>CoP.of_eq (by simp [ef,hf])
theorem aj0 {l:List Rw} {i k:Nat} {g f:Nat → Nat → PV} {e et:TypeId} (hk:k = (l.getD i default).length) (hf:∀ a b,f a b = lf zC (l.getD i default) a b) :
 CoO (.nest e et 1 (i + 1) (nr (nM l) i k) (pj (mg (c5 l)) i (ef 0 g f)) none) (.nest e et 1 (i + 1) (nM l) (mg (c5 l)) none):=by
 have e:ef 0 g f = lf zC (l.getD i default):=by funext a b;simp [ef,hf]
 rw [e]
 exact a93 hk rfl
end Go.Hx
end
section
namespace Go.Hx
open Go.Proofs
set_option maxRecDepth 100000
theorem a7d:goodFn Tryz.prog 174:=⟨Tryz.f174,Tryz.func174,by kernel_rfl,by kernel_rfl⟩
theorem acp (l:List Rw) (hl:∀ i,i < l.length → (l.getD i default).length ≤ 17592186044416) (hl2:l.length ≤ 5864062014805):dg Tryz.prog 174 [.one (.p (rl l))] [] (.v (.one (.ref 901 l.length))) [(901, .arr true 1 121 l.length (lf rC l))] []:=by
 refine eq (nt:=21) ae Tryz.func174 rfl rfl l9 rfl ?_;refine a7 ?_
 refine d9 0 rfl fun hn=>?_
 refine gy ?_;refine qy ?_;refine a6 ?_;refine sx7 ?_;refine qy ?_;refine a6 ?_
 refine db 3 901 true 1 121 (lf rC l) (by decide) rfl (CoP.sl rfl (.inr rfl) (fun h=>h) (fun i j hi _=>absurd hi (Nat.not_lt_zero i))) (.inr rfl) rfl ?_;refine a7 ?_;refine sx7 ?_;refine qy ?_;refine a6 ?_
 refine ab ?_
 refine aj (ι:=Nat) ⟨[(0,some _)],[]⟩ ⟨⟨c9,trivial⟩,trivial⟩ (fun i=>⟨[(3,some (.v (.one (.ref 901 i)))),(4,some (vI i))],[(901,some (.arr true 1 121 i (lf rC l)))]⟩) (fun i=>i ≤ l.length) (fun i=>l.length - i) (0) (Nat.zero_le _) ⟨⟨zy,zy,trivial⟩,⟨u9,trivial⟩⟩ ?_
 rintro i hi
 refine a7 ?_;refine sx7 ?_;(iterate 4 refine qy ?_);refine a6 ?_;refine a8 _ rfl (fun r0=>?_) (fun r0=>?_)
 ·
  have h0:=of_decide_eq_true r0
  try simp only [ty] at h0
  have hli:=hl i (by omega)
  refine aa ?_;refine a7 ?_;refine ab ?_;refine yy [0,1,2,3,4,5,6] [7,8,9] rfl ?_;refine xj (E:=bf) ae ?_;refine qy ?_;refine m9 0 ?_;(iterate 4 refine qy ?_)
  refine ra 1 true rfl rfl rfl rfl rfl rfl ?_;refine a6 ?_;refine aiw ?_;refine a0o 17 rfl rfl rfl ?_;refine a7s ?_;refine xj (E:=bf) (L1:=[7,8,9]) (L2:=[]) ae ?_;refine m9 2 ?_
  refine ra 3 true rfl rfl rfl rfl rfl rfl ?_;refine qy ?_;refine a6 ?_;refine abp ?_;refine gy ?_;(iterate 3 refine qy ?_);refine a6 ?_;refine ⟨i + 1, ?_, ?_, ?_⟩
  · show i + 1 ≤ _;omega
  · first | omega | (dsimp only;omega)
  · exact ⟨⟨zy,zy,c9,trivial⟩,⟨⟨_,rfl,(n5 (fun h=>h) (fun j hj=>by obtain rfl:j = 0:=(by omega);exact ay2 (fun _ _=>rfl)))⟩,trivial⟩⟩
 ·
  have h0:=of_decide_eq_false r0
  try simp only [ty] at h0
  obtain rfl:i = l.length:=by omega
  refine ak ?_;refine sx7 ?_;(iterate 2 refine qy ?_);refine a6 ?_;refine ap ?_;refine ⟨.inr rfl, ?_⟩
  exact ⟨_,_,rfl,(by (repeat' apply And.intro) <;> first | trivial | exact Nat.le_of_ble_eq_true rfl),CoR.refl _,⟨u9,trivial⟩⟩
theorem aob (l:List Rw) (hl:∀ i,i < l.length → (l.getD i default).length ≤ 17592186044416) (hl2:l.length ≤ 5864062014805):dg Tryz.prog 174 [.one (.p (rl l))] [] (.v (.one (.ref 901 l.length))) [(901, .nest 121 3 1 l.length (nM l) (mg (c5 l)) none)] []:=by
 refine eq (nt:=21) ae Tryz.func174 rfl rfl l9 rfl ?_;refine a7 ?_
 refine d9 0 rfl fun hn=>?_
 refine gy ?_;refine qy ?_;refine a6 ?_;refine sx7 ?_;refine qy ?_;refine a6 ?_;refine anq 3 901 121 3 1 (nM l) (mg (c5 l)) (by decide) rfl rfl ?_;refine a7 ?_;refine sx7 ?_;refine qy ?_
 refine a6 ?_;refine ab ?_
 refine aj (ι:=Nat) ⟨[(0,some _)],[]⟩ ⟨⟨c9,trivial⟩,trivial⟩ (fun i=>⟨[(3,some (.v (.one (.ref 901 i)))),(4,some (vI i))],[(901,some (.nest 121 3 1 i (nM l) (mg (c5 l)) none))]⟩) (fun i=>i ≤ l.length) (fun i=>l.length - i) (0) (Nat.zero_le _) ⟨⟨zy,zy,trivial⟩,⟨u9,trivial⟩⟩ ?_
 rintro i hi
 refine a7 ?_;refine sx7 ?_;(iterate 4 refine qy ?_);refine a6 ?_;refine a8 _ rfl (fun r0=>?_) (fun r0=>?_)
 ·
  have h0:=of_decide_eq_true r0
  try simp only [ty] at h0
  have hli:=hl i (by omega)
  refine aa ?_;refine a7 ?_;refine ab ?_;refine gy ?_;refine qy ?_;refine m9 0 ?_;(iterate 4 refine qy ?_);refine ra 1 true rfl rfl rfl rfl rfl rfl ?_;refine m9 2 ?_
  refine ra 3 true rfl rfl rfl rfl rfl rfl ?_;refine qy ?_;refine a6 ?_;refine a92 901 0 rfl rfl ?_;refine gy ?_;(iterate 3 refine qy ?_);refine a6 ?_;refine ⟨i + 1, ?_, ?_, ?_⟩
  · show i + 1 ≤ _;omega
  · first | omega | (dsimp only;omega)
  · exact ⟨⟨zy,zy,c9,trivial⟩,⟨⟨_,rfl,(aj0 (Nat.zero_add _) (fun _ _=>rfl))⟩,trivial⟩⟩
 ·
  have h0:=of_decide_eq_false r0
  try simp only [ty] at h0
  obtain rfl:i = l.length:=by omega
  refine ak ?_;refine sx7 ?_;(iterate 2 refine qy ?_);refine a6 ?_;refine ap ?_;refine ⟨.inr rfl, ?_⟩
  exact ⟨_,_,rfl,(by (repeat' apply And.intro) <;> first | trivial | exact Nat.le_of_ble_eq_true rfl),CoR.refl _,⟨u9,trivial⟩⟩
end Go.Hx
end
section
namespace Go.Hx
theorem alz {s:AS} {n:Nat} (hn:n ≤ 32) (h:∀ j,j ∈ az s → j < n):dz s n = az s:=by
 have h2:∀ d,n + d ≤ 32 → dz s (n + d) = dz s n:=by
  intro d
  induction d with
  | zero=>intro _;rfl
  | succ d ih =>
   intro hd
   have hf:c4 s ((n + d:Nat):Int) = false:=by
    rw [cj (by omega),Bool.eq_false_iff]
    intro e
    have:=h _ (jh.2 ⟨by omega,e⟩)
    omega
   rw [← ih (by omega)]
   exact o9 (i:=n + d) (show n + d < 32 by omega) hf
 have:=h2 (32 - n) (by omega)
 rw [← this,show n + (32 - n) = 32 by omega]
 rfl
theorem oh {M:Nat → Nat → Int} {a b j:Nat} {js:List Nat}:eqMs M a b (js ++ [j]) = eqM (eqMs M a b js) a b j:=by
 unfold eqMs
 rw [List.foldl_append]
 rfl
theorem arx {l:List Rw} {M:Nat → Nat → Int} {n:Nat} (hn:n = l.length):CoP (.sl n 1 false (vq 1 (nM l) (mg M))) (rl (dj l M)):=by
 obtain ⟨_,_,_,h1,h2⟩:=ag6 (l:=l) (M:=M) (e:=25) hn
 exact CoP.sl h1 (.inl rfl) (fun h=>h) h2
end Go.Hx
end
